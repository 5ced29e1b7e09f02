/- The walks of title.prefix and title.Valid. -/
import Derived.Test.YtbeijpajodgpeaaDoorQ1
import Derived.Deep.QuietTactic
import Derived.BigQuiet
import Derived.Laws.OwnMore
namespace Go.Proofs.YtbeijpajodgpeaaDoor
open Go.RowKit
set_option linter.unusedSimpArgs false
set_option linter.unusedVariables false

theorem str_beq (a b : ByteArray) : (a.toList == b.toList) = decide (a = b) := by
  by_cases h : a = b
  · subst h; simp
  · have : a.toList ≠ b.toList := fun e => h (by rw [ByteArray.toList_eq, ByteArray.toList_eq] at e; exact ByteArray.ext (Array.toList_inj.1 e))
    simp [h, this]
theorem bB_inj {a b : List UInt8} : bB a = bB b ↔ a = b := ⟨fun h => by have := congrArg (fun s : ByteArray => s.data.toList) h; simpa [bB] using this, fun h => by rw [h]⟩
theorem fold_beq (l m : List UInt8) : ((bB (l.map ch)).toList == (bB (m.map ch)).toList) = decide (l.map ch = m.map ch) := by
  rw [str_beq]
  by_cases h : l.map ch = m.map ch
  · simp [h]
  · rw [decide_eq_false h, decide_eq_false (fun e => h (bB_inj.1 e))]

set_option maxRecDepth 100000 in
set_option maxHeartbeats 4000000 in
theorem prefix_any (s : ByteArray) (m : Int) (w : World) (hs : s.size ≤ 1000) (hm : w.cell? ⟨0, 0, none⟩ = some (.int .i64 m)) :
    Calls Tryd.prog 66 #[.string s] w fun e w' => (∃ (a : Int) (b : ByteArray), e = .returned (.tuple #[.int .i64 a, .string b, .bool (nmd (bl s))])) ∧ Below w.heap.size w w' := by
  have HC := Lib.hid (Tryd.strings_Cut s ⟨#[58]⟩ m w (by omega) hm)
  obtain ⟨cu, hcu⟩ : ∃ cu, cu = Lib.cut s.data.toList [58] := ⟨_, rfl⟩
  have hcu1 := hcu
  unfold Lib.cut at hcu1
  rw [show (ByteArray.data ⟨#[58]⟩).toList = [58] from rfl, ← hcu] at HC
  by_cases hi : 0 ≤ Lib.index s.data.toList [58]
  · rw [if_pos hi] at hcu1
    subst hcu1
    generalize hl : s.data.toList.take (Lib.index s.data.toList [58]).toNat = l at HC
    have hll : l.length ≤ s.size := by rw [← hl, List.length_take, ← bl_len]; exact Nat.min_le_right _ _
    have HN : Hid (nmd (bl s) = isSp (Lib.trimSuffix l [32])) := Lib.hid (by unfold nmd; rw [decide_eq_true hi, hl]; rfl)
    generalize s.data.toList.drop _ = r at HC
    clear hcu hl
    have HT : Hid (∀ W : World, Calls Tryd.prog 80 #[.string ⟨l.toArray⟩, .string ⟨#[32]⟩] W fun e w' => e = .returned (.string (bB (Lib.trimSuffix l [32]))) ∧ w' = W) := Lib.hid fun W => Tryd.strings_TrimSuffix ⟨l.toArray⟩ ⟨#[32]⟩ W (by show l.toArray.size ≤ _; rw [List.size_toArray]; omega)
    have htl : (Lib.trimSuffix l [32]).length ≤ l.length := Lib.trimSuffix_le l [32]
    generalize Lib.trimSuffix l [32] = t at *
    have HF : Hid (∀ W : World, Calls Tryd.prog 79 #[.string (bB t)] W fun e w' => e = .returned (.string (bB (t.map ch))) ∧ Below W.heap.size W w') := Lib.hid fun W => fold_any (bB t) W (by rw [bB_size]; omega)
    have HF2 : Hid (∀ (j : Nat) (W : World), Calls Tryd.prog 79 #[.string (names.getD j ByteArray.empty)] W fun e w' => e = .returned (.string (bB ((bl (names.getD j ByteArray.empty)).map ch))) ∧ Below W.heap.size W w') := Lib.hid fun j W => fold_any _ W (by
      have : ∀ j : Fin 6, (names.getD j.val ByteArray.empty).size ≤ 100 := by decide +kernel
      rcases Nat.lt_or_ge j 6 with h | h
      · have := this ⟨j, h⟩; show _ ≤ _; simp only at this; omega
      · rw [show names.getD j ByteArray.empty = ByteArray.empty by simp [List.getD, List.getElem?_eq_none (show names.length ≤ j from h)]]; decide)
    have HS := Lib.hid fun W => spaces_any W
    clear hm
    go_enter Tryd.func66, Tryd.ntmps66
    go_wp2_with (first
      | (go_at_call 78; refine HC.out.mono ?_; rintro e w1 ⟨rfl, nq, rfl⟩)
      | (go_at_call 80; refine (HT.out _).mono ?_; rintro e w2 ⟨rfl, hwn⟩; obtain rfl := hwn.symm)
      | (go_at_call 79; refine (HF.out _).mono ?_; rintro e w3 ⟨rfl, hb3⟩)
      | (go_at_call 81; refine (HS.out _).mono ?_; rintro e w4 ⟨rfl, hb4⟩))
    have hb04 : Below w.heap.size w w4 := by (refine bel_out ?_; (focus (repeat' first | (with_reducible refine bel_refl ?_) | with_reducible assumption | with_reducible refine bel_drew ?_ | with_reducible refine bel_drewN _ ?_ | with_reducible refine bel_alloc _ ?_ | with_reducible refine bel_set ?_ _ ?_ | (with_reducible apply bel_call; with_reducible assumption) | (with_reducible apply bel_owg; with_reducible assumption; (focus omega)) | with_reducible exact Nat.le_refl _ | omega | (simp; done) | (simp; omega))))
    clear hb3 hb4 HC HT
    go_loopw [23] (fun v wr => ∃ k : Nat, k ≤ 6 ∧ v = .int .i64 k ∧ Below w.heap.size w wr ∧ Hid (∀ j, 1 ≤ j → j < k → t.map ch ≠ (bl (names.getD j ByteArray.empty)).map ch)) (fun v _ => 6 - (intOf v).toNat)
    case atStart => exact ⟨0, Nat.zero_le _, rfl, hb04, Lib.hid fun j h1 h2 => by omega⟩
    case round =>
      obtain ⟨k, hk, rfl, hbw, HJ⟩ := hrel
      clear hb04
      obtain rfl | rfl | rfl | rfl | rfl | rfl | rfl : k = 0 ∨ k = 1 ∨ k = 2 ∨ k = 3 ∨ k = 4 ∨ k = 5 ∨ k = 6 := by omega
      · have ix : ∀ W, (Instr.index 116 (.agg namesV) (.int .i64 0)).run Tryd.prog W = .ok (.string ⟨#[]⟩) W := fun _ => by kernel_rfl
        have ix2 : ∀ W, (Instr.index 116 (.agg namesV) (.int .i64 ((0 : Nat) : Int))).run Tryd.prog W = .ok (.string ⟨#[]⟩) W := fun _ => by kernel_rfl
        go_wp2_with fail
        go_roundw
        case rel => exact ⟨1, by omega, rfl, hbw, Lib.hid fun j h1 h2 => by omega⟩
        case measure => simp [intOf]
      · by_cases hq : t.map ch = (bl (names.getD 1 ByteArray.empty)).map ch
        · have HR : Hid (isSp t = true) := Lib.hid (isSp_hit (j := 1) (by decide) (by decide) hq)
          have hq2 := (fold_beq t (bl (names.getD 1 ByteArray.empty))).trans (decide_eq_true hq)
          have HF3 := Lib.hid fun W => HF2.out 1 W
          have ix : ∀ W, (Instr.index 116 (.agg namesV) (.int .i64 1)).run Tryd.prog W = .ok (.string (names.getD 1 ByteArray.empty)) W := fun _ => by kernel_rfl
          have ix2 : ∀ W, (Instr.index 116 (.agg namesV) (.int .i64 ((1 : Nat) : Int))).run Tryd.prog W = .ok (.string (names.getD 1 ByteArray.empty)) W := fun _ => by kernel_rfl
          clear HF2 HF HS HJ hq
          generalize names.getD 1 ByteArray.empty = nk at *
          generalize bl nk = nm at *
          generalize bB (List.map ch nm) = nmB at *
          generalize bB (List.map ch t) = tB at *
          go_wp2_with (go_at_call 79; refine (HF3.out _).mono ?_; rintro e w5 ⟨rfl, hb5⟩)
          refine bodyPost_ret (v := .tuple #[.int .i64 1, .string ⟨r.toArray⟩, .bool true]) ?_ rfl ⟨⟨_, _, by rw [HN.out, HR.out]⟩, ?_⟩
          · simp [results, Tryd.results66, go_sem]
          · exact below_call hbw hb5
        · have HJ2 : Hid (∀ j, 1 ≤ j → j < 2 → t.map ch ≠ (bl (names.getD j ByteArray.empty)).map ch) := Lib.hid fun j h1 h2 => by
            rcases Nat.lt_or_ge j 1 with h3 | h3
            · exact HJ.out j h1 h3
            · obtain rfl : j = 1 := by omega
              exact hq
          have hq2 := (fold_beq t (bl (names.getD 1 ByteArray.empty))).trans (decide_eq_false hq)
          have HF3 := Lib.hid fun W => HF2.out 1 W
          have ix : ∀ W, (Instr.index 116 (.agg namesV) (.int .i64 1)).run Tryd.prog W = .ok (.string (names.getD 1 ByteArray.empty)) W := fun _ => by kernel_rfl
          have ix2 : ∀ W, (Instr.index 116 (.agg namesV) (.int .i64 ((1 : Nat) : Int))).run Tryd.prog W = .ok (.string (names.getD 1 ByteArray.empty)) W := fun _ => by kernel_rfl
          clear HF2 HF HS HJ hq
          generalize names.getD 1 ByteArray.empty = nk at *
          generalize bl nk = nm at *
          generalize bB (List.map ch nm) = nmB at *
          generalize bB (List.map ch t) = tB at *
          go_wp2_with (go_at_call 79; refine (HF3.out _).mono ?_; rintro e w5 ⟨rfl, hb5⟩)
          go_roundw
          case rel => exact ⟨2, by omega, rfl, below_call hbw hb5, HJ2⟩
          case measure => simp [intOf]
      · by_cases hq : t.map ch = (bl (names.getD 2 ByteArray.empty)).map ch
        · have HR : Hid (isSp t = true) := Lib.hid (isSp_hit (j := 2) (by decide) (by decide) hq)
          have hq2 := (fold_beq t (bl (names.getD 2 ByteArray.empty))).trans (decide_eq_true hq)
          have HF3 := Lib.hid fun W => HF2.out 2 W
          have ix : ∀ W, (Instr.index 116 (.agg namesV) (.int .i64 2)).run Tryd.prog W = .ok (.string (names.getD 2 ByteArray.empty)) W := fun _ => by kernel_rfl
          have ix2 : ∀ W, (Instr.index 116 (.agg namesV) (.int .i64 ((2 : Nat) : Int))).run Tryd.prog W = .ok (.string (names.getD 2 ByteArray.empty)) W := fun _ => by kernel_rfl
          clear HF2 HF HS HJ hq
          generalize names.getD 2 ByteArray.empty = nk at *
          generalize bl nk = nm at *
          generalize bB (List.map ch nm) = nmB at *
          generalize bB (List.map ch t) = tB at *
          go_wp2_with (go_at_call 79; refine (HF3.out _).mono ?_; rintro e w5 ⟨rfl, hb5⟩)
          refine bodyPost_ret (v := .tuple #[.int .i64 2, .string ⟨r.toArray⟩, .bool true]) ?_ rfl ⟨⟨_, _, by rw [HN.out, HR.out]⟩, ?_⟩
          · simp [results, Tryd.results66, go_sem]
          · exact below_call hbw hb5
        · have HJ2 : Hid (∀ j, 1 ≤ j → j < 3 → t.map ch ≠ (bl (names.getD j ByteArray.empty)).map ch) := Lib.hid fun j h1 h2 => by
            rcases Nat.lt_or_ge j 2 with h3 | h3
            · exact HJ.out j h1 h3
            · obtain rfl : j = 2 := by omega
              exact hq
          have hq2 := (fold_beq t (bl (names.getD 2 ByteArray.empty))).trans (decide_eq_false hq)
          have HF3 := Lib.hid fun W => HF2.out 2 W
          have ix : ∀ W, (Instr.index 116 (.agg namesV) (.int .i64 2)).run Tryd.prog W = .ok (.string (names.getD 2 ByteArray.empty)) W := fun _ => by kernel_rfl
          have ix2 : ∀ W, (Instr.index 116 (.agg namesV) (.int .i64 ((2 : Nat) : Int))).run Tryd.prog W = .ok (.string (names.getD 2 ByteArray.empty)) W := fun _ => by kernel_rfl
          clear HF2 HF HS HJ hq
          generalize names.getD 2 ByteArray.empty = nk at *
          generalize bl nk = nm at *
          generalize bB (List.map ch nm) = nmB at *
          generalize bB (List.map ch t) = tB at *
          go_wp2_with (go_at_call 79; refine (HF3.out _).mono ?_; rintro e w5 ⟨rfl, hb5⟩)
          go_roundw
          case rel => exact ⟨3, by omega, rfl, below_call hbw hb5, HJ2⟩
          case measure => simp [intOf]
      · by_cases hq : t.map ch = (bl (names.getD 3 ByteArray.empty)).map ch
        · have HR : Hid (isSp t = true) := Lib.hid (isSp_hit (j := 3) (by decide) (by decide) hq)
          have hq2 := (fold_beq t (bl (names.getD 3 ByteArray.empty))).trans (decide_eq_true hq)
          have HF3 := Lib.hid fun W => HF2.out 3 W
          have ix : ∀ W, (Instr.index 116 (.agg namesV) (.int .i64 3)).run Tryd.prog W = .ok (.string (names.getD 3 ByteArray.empty)) W := fun _ => by kernel_rfl
          have ix2 : ∀ W, (Instr.index 116 (.agg namesV) (.int .i64 ((3 : Nat) : Int))).run Tryd.prog W = .ok (.string (names.getD 3 ByteArray.empty)) W := fun _ => by kernel_rfl
          clear HF2 HF HS HJ hq
          generalize names.getD 3 ByteArray.empty = nk at *
          generalize bl nk = nm at *
          generalize bB (List.map ch nm) = nmB at *
          generalize bB (List.map ch t) = tB at *
          go_wp2_with (go_at_call 79; refine (HF3.out _).mono ?_; rintro e w5 ⟨rfl, hb5⟩)
          refine bodyPost_ret (v := .tuple #[.int .i64 3, .string ⟨r.toArray⟩, .bool true]) ?_ rfl ⟨⟨_, _, by rw [HN.out, HR.out]⟩, ?_⟩
          · simp [results, Tryd.results66, go_sem]
          · exact below_call hbw hb5
        · have HJ2 : Hid (∀ j, 1 ≤ j → j < 4 → t.map ch ≠ (bl (names.getD j ByteArray.empty)).map ch) := Lib.hid fun j h1 h2 => by
            rcases Nat.lt_or_ge j 3 with h3 | h3
            · exact HJ.out j h1 h3
            · obtain rfl : j = 3 := by omega
              exact hq
          have hq2 := (fold_beq t (bl (names.getD 3 ByteArray.empty))).trans (decide_eq_false hq)
          have HF3 := Lib.hid fun W => HF2.out 3 W
          have ix : ∀ W, (Instr.index 116 (.agg namesV) (.int .i64 3)).run Tryd.prog W = .ok (.string (names.getD 3 ByteArray.empty)) W := fun _ => by kernel_rfl
          have ix2 : ∀ W, (Instr.index 116 (.agg namesV) (.int .i64 ((3 : Nat) : Int))).run Tryd.prog W = .ok (.string (names.getD 3 ByteArray.empty)) W := fun _ => by kernel_rfl
          clear HF2 HF HS HJ hq
          generalize names.getD 3 ByteArray.empty = nk at *
          generalize bl nk = nm at *
          generalize bB (List.map ch nm) = nmB at *
          generalize bB (List.map ch t) = tB at *
          go_wp2_with (go_at_call 79; refine (HF3.out _).mono ?_; rintro e w5 ⟨rfl, hb5⟩)
          go_roundw
          case rel => exact ⟨4, by omega, rfl, below_call hbw hb5, HJ2⟩
          case measure => simp [intOf]
      · by_cases hq : t.map ch = (bl (names.getD 4 ByteArray.empty)).map ch
        · have HR : Hid (isSp t = true) := Lib.hid (isSp_hit (j := 4) (by decide) (by decide) hq)
          have hq2 := (fold_beq t (bl (names.getD 4 ByteArray.empty))).trans (decide_eq_true hq)
          have HF3 := Lib.hid fun W => HF2.out 4 W
          have ix : ∀ W, (Instr.index 116 (.agg namesV) (.int .i64 4)).run Tryd.prog W = .ok (.string (names.getD 4 ByteArray.empty)) W := fun _ => by kernel_rfl
          have ix2 : ∀ W, (Instr.index 116 (.agg namesV) (.int .i64 ((4 : Nat) : Int))).run Tryd.prog W = .ok (.string (names.getD 4 ByteArray.empty)) W := fun _ => by kernel_rfl
          clear HF2 HF HS HJ hq
          generalize names.getD 4 ByteArray.empty = nk at *
          generalize bl nk = nm at *
          generalize bB (List.map ch nm) = nmB at *
          generalize bB (List.map ch t) = tB at *
          go_wp2_with (go_at_call 79; refine (HF3.out _).mono ?_; rintro e w5 ⟨rfl, hb5⟩)
          refine bodyPost_ret (v := .tuple #[.int .i64 4, .string ⟨r.toArray⟩, .bool true]) ?_ rfl ⟨⟨_, _, by rw [HN.out, HR.out]⟩, ?_⟩
          · simp [results, Tryd.results66, go_sem]
          · exact below_call hbw hb5
        · have HJ2 : Hid (∀ j, 1 ≤ j → j < 5 → t.map ch ≠ (bl (names.getD j ByteArray.empty)).map ch) := Lib.hid fun j h1 h2 => by
            rcases Nat.lt_or_ge j 4 with h3 | h3
            · exact HJ.out j h1 h3
            · obtain rfl : j = 4 := by omega
              exact hq
          have hq2 := (fold_beq t (bl (names.getD 4 ByteArray.empty))).trans (decide_eq_false hq)
          have HF3 := Lib.hid fun W => HF2.out 4 W
          have ix : ∀ W, (Instr.index 116 (.agg namesV) (.int .i64 4)).run Tryd.prog W = .ok (.string (names.getD 4 ByteArray.empty)) W := fun _ => by kernel_rfl
          have ix2 : ∀ W, (Instr.index 116 (.agg namesV) (.int .i64 ((4 : Nat) : Int))).run Tryd.prog W = .ok (.string (names.getD 4 ByteArray.empty)) W := fun _ => by kernel_rfl
          clear HF2 HF HS HJ hq
          generalize names.getD 4 ByteArray.empty = nk at *
          generalize bl nk = nm at *
          generalize bB (List.map ch nm) = nmB at *
          generalize bB (List.map ch t) = tB at *
          go_wp2_with (go_at_call 79; refine (HF3.out _).mono ?_; rintro e w5 ⟨rfl, hb5⟩)
          go_roundw
          case rel => exact ⟨5, by omega, rfl, below_call hbw hb5, HJ2⟩
          case measure => simp [intOf]
      · by_cases hq : t.map ch = (bl (names.getD 5 ByteArray.empty)).map ch
        · have HR : Hid (isSp t = true) := Lib.hid (isSp_hit (j := 5) (by decide) (by decide) hq)
          have hq2 := (fold_beq t (bl (names.getD 5 ByteArray.empty))).trans (decide_eq_true hq)
          have HF3 := Lib.hid fun W => HF2.out 5 W
          have ix : ∀ W, (Instr.index 116 (.agg namesV) (.int .i64 5)).run Tryd.prog W = .ok (.string (names.getD 5 ByteArray.empty)) W := fun _ => by kernel_rfl
          have ix2 : ∀ W, (Instr.index 116 (.agg namesV) (.int .i64 ((5 : Nat) : Int))).run Tryd.prog W = .ok (.string (names.getD 5 ByteArray.empty)) W := fun _ => by kernel_rfl
          clear HF2 HF HS HJ hq
          generalize names.getD 5 ByteArray.empty = nk at *
          generalize bl nk = nm at *
          generalize bB (List.map ch nm) = nmB at *
          generalize bB (List.map ch t) = tB at *
          go_wp2_with (go_at_call 79; refine (HF3.out _).mono ?_; rintro e w5 ⟨rfl, hb5⟩)
          refine bodyPost_ret (v := .tuple #[.int .i64 5, .string ⟨r.toArray⟩, .bool true]) ?_ rfl ⟨⟨_, _, by rw [HN.out, HR.out]⟩, ?_⟩
          · simp [results, Tryd.results66, go_sem]
          · exact below_call hbw hb5
        · have HJ2 : Hid (∀ j, 1 ≤ j → j < 6 → t.map ch ≠ (bl (names.getD j ByteArray.empty)).map ch) := Lib.hid fun j h1 h2 => by
            rcases Nat.lt_or_ge j 5 with h3 | h3
            · exact HJ.out j h1 h3
            · obtain rfl : j = 5 := by omega
              exact hq
          have hq2 := (fold_beq t (bl (names.getD 5 ByteArray.empty))).trans (decide_eq_false hq)
          have HF3 := Lib.hid fun W => HF2.out 5 W
          have ix : ∀ W, (Instr.index 116 (.agg namesV) (.int .i64 5)).run Tryd.prog W = .ok (.string (names.getD 5 ByteArray.empty)) W := fun _ => by kernel_rfl
          have ix2 : ∀ W, (Instr.index 116 (.agg namesV) (.int .i64 ((5 : Nat) : Int))).run Tryd.prog W = .ok (.string (names.getD 5 ByteArray.empty)) W := fun _ => by kernel_rfl
          clear HF2 HF HS HJ hq
          generalize names.getD 5 ByteArray.empty = nk at *
          generalize bl nk = nm at *
          generalize bB (List.map ch nm) = nmB at *
          generalize bB (List.map ch t) = tB at *
          go_wp2_with (go_at_call 79; refine (HF3.out _).mono ?_; rintro e w5 ⟨rfl, hb5⟩)
          go_roundw
          case rel => exact ⟨6, by omega, rfl, below_call hbw hb5, HJ2⟩
          case measure => simp [intOf]
      · have HR : Hid (isSp t = false) := Lib.hid (isSp_miss HJ.out)
        clear HF HF2 HS
        go_wp2_with fail
        refine bodyPost_ret (v := .tuple #[.int .i64 0, .string ⟨#[]⟩, .bool false]) ?_ rfl ⟨⟨_, _, by rw [HN.out, HR.out]⟩, hbw⟩
        simp [results, Tryd.results66, go_sem]
  · rw [if_neg hi] at hcu1
    subst hcu1
    have HN : Hid (nmd (bl s) = false) := Lib.hid (by unfold nmd; rw [decide_eq_false hi]; rfl)
    clear hcu hi hm
    go_enter Tryd.func66, Tryd.ntmps66
    go_wp2_with (first
      | (go_at_call 78; refine HC.out.mono ?_; rintro e w1 ⟨rfl, nq, rfl⟩))
    refine bodyPost_ret (v := .tuple #[.int .i64 0, .string ⟨#[]⟩, .bool false]) ?_ rfl ⟨⟨_, _, by rw [HN.out]⟩, ?_⟩
    · simp [results, Tryd.results66, go_sem]
    · (refine bel_out ?_; (focus (repeat' first | (with_reducible refine bel_refl ?_) | with_reducible assumption | with_reducible refine bel_drew ?_ | with_reducible refine bel_drewN _ ?_ | with_reducible refine bel_alloc _ ?_ | with_reducible refine bel_set ?_ _ ?_ | (with_reducible apply bel_call; with_reducible assumption) | (with_reducible apply bel_owg; with_reducible assumption; (focus omega)) | with_reducible exact Nat.le_refl _ | omega | (simp; done) | (simp; omega))))
end Go.Proofs.YtbeijpajodgpeaaDoor
/- The walk of title.Valid. -/
namespace Go.Proofs.YtbeijpajodgpeaaDoor
open Go.RowKit
set_option linter.unusedSimpArgs false
set_option linter.unusedVariables false

theorem split_any (s : ByteArray) (m : Int) (w : World) (hs : s.size < 4294967281) (hm : w.cell? ⟨0, 0, none⟩ = some (.int .i64 m)) :
    Calls Tryd.prog 65 #[.string s, .string sl] w fun e w' => e = .returned (.slice (some ⟨w.heap.size, 0, none⟩) (PC s).length (PC s).length) ∧ w' = w.alloc (.cells ((PC s).map Value.string).toArray 9) := by
  have hle := Lib.countB_le sl (by decide) s.size s (Nat.le_refl _)
  have hlen := Lib.splitB_all sl (by decide) 0 _ s rfl
  have c := Tryd.strings_Split s sl m w hs hm (by decide)
  rw [← hlen, split_PC] at c
  exact c
theorem PC_cell (w : World) (L : List ByteArray) (t k : Nat) (hk : k < L.length) : (w.alloc (.cells (L.map Value.string).toArray t)).cell? ⟨w.heap.size, k, none⟩ = some (.string (L.getD k ByteArray.empty)) := by
  rw [cell_of_row _ w.heap.size k _ _ _ (heap_new rfl)]
  simp [List.getElem?_map, List.getD, List.getElem?_eq_getElem hk]
theorem badP_eq {p : ByteArray} (h : 0 < p.size) : badP p = (p[0] == 32 || p[p.size - 1] == 32) := by unfold badP; rw [dif_pos h]
theorem any_bad {L : List ByteArray} {k : Nat} (hk : k < L.length) (h : badP (L.getD k ByteArray.empty) = true) : L.any badP = true := by
  rw [List.any_eq_true]
  have e : L.getD k ByteArray.empty = L[k] := by simp [List.getD, List.getElem?_eq_getElem hk]
  exact ⟨L[k], List.getElem_mem hk, by rw [← e]; exact h⟩
theorem any_good {L : List ByteArray} (h : ∀ k, k < L.length → badP (L.getD k ByteArray.empty) = false) : L.any badP = false := by
  rw [List.any_eq_false]
  intro p hp
  obtain ⟨k, hk, rfl⟩ := List.mem_iff_getElem.1 hp
  have e : L.getD k ByteArray.empty = L[k] := by simp [List.getD, List.getElem?_eq_getElem hk]
  have := h k hk
  rw [e] at this
  simp [this]
theorem tv_eq {x : Int} {s : ByteArray} (h : 0 ≤ x ∧ x < 6 ∧ 1 ≤ s.size ∧ s.size ≤ 100) : tv x s =
    (cln s && !(PC s).any badP && !(s[0] == 58 || (decide (97 ≤ s[0].toNat) && decide (s[0].toNat ≤ 122))) && (decide (x ≠ 0) || !nmd (bl s))) := by unfold tv; rw [dif_pos h]

set_option maxRecDepth 100000 in
set_option maxHeartbeats 4000000 in
theorem title_any (x : Int) (s : ByteArray) (m : Int) (w : World) (hm : w.cell? ⟨0, 0, none⟩ = some (.int .i64 m)) (hw0 : 0 < w.heap.size) :
    Calls Tryd.prog 48 #[.agg #[.int .i64 x, .string s]] w fun e w' => e = .returned (.bool (tv x s)) ∧ Below w.heap.size w w' := by
  by_cases h : 0 ≤ x ∧ x < 6 ∧ 1 ≤ s.size ∧ s.size ≤ 100
  · have hT := tv_eq h
    obtain ⟨h1, h2, h3, h4⟩ := h
    have q1 : ¬ x < 0 := by omega
    have q2 : ¬ 6 ≤ x := by omega
    have q3 : ¬ (s.size : Int) < 1 := by omega
    have q4 : ¬ (100 : Int) < (s.size : Int) := by omega
    have HM : Hid (∀ W, Below w.heap.size w W → W.cell? ⟨0, 0, none⟩ = some (.int .i64 m)) := Lib.hid fun W hb => (hb.cell (p := ⟨0, 0, none⟩) hw0).trans hm
    have HC := Lib.hid fun W => clean_any s W (by omega)
    have HS := Lib.hid fun (W : World) hW => split_any s m W (by omega) hW
    have HP := Lib.hid fun (W : World) hW => prefix_any s m W (by omega) hW
    generalize hcl : cln s = cl at *
    generalize nmd (bl s) = nm at *
    have HT := Lib.hid hT
    clear hT hcl
    cases cl with
    | false =>
      go_enter Tryd.func48, Tryd.ntmps48
      go_wp2_with (first
        | (go_at_call 64; refine (HC.out _).mono ?_; rintro e w1 ⟨rfl, hb1⟩))
      go_ret
      exact ⟨by rw [HT.out]; rfl, by (refine bel_out ?_; (focus (repeat' first | (with_reducible refine bel_refl ?_) | with_reducible assumption | with_reducible refine bel_drew ?_ | with_reducible refine bel_drewN _ ?_ | with_reducible refine bel_alloc _ ?_ | with_reducible refine bel_set ?_ _ ?_ | (with_reducible apply bel_call; with_reducible assumption) | (with_reducible apply bel_owg; with_reducible assumption; (focus omega)) | with_reducible exact Nat.le_refl _ | omega | (simp; done) | (simp; omega))))⟩
    | true =>
      go_enter Tryd.func48, Tryd.ntmps48
      go_wp2_with (first
        | (go_at_call 64; refine (HC.out _).mono ?_; rintro e w1 ⟨rfl, hb1⟩)
        | (go_at_call 65; refine (HS.out _ ?_).mono ?_; (focus (refine HM.out _ ?_; (refine bel_out ?_; (focus (repeat' first | (with_reducible refine bel_refl ?_) | with_reducible assumption | with_reducible refine bel_drew ?_ | with_reducible refine bel_drewN _ ?_ | with_reducible refine bel_alloc _ ?_ | with_reducible refine bel_set ?_ _ ?_ | (with_reducible apply bel_call; with_reducible assumption) | (with_reducible apply bel_owg; with_reducible assumption; (focus omega)) | with_reducible exact Nat.le_refl _ | omega | (simp; done) | (simp; omega)))))); rintro e w2 ⟨rfl, hw2'⟩; (have hw2 := Lib.hid hw2'); clear hw2'))
      have hx2 : w2.heap[w.heap.size]? = some (.cells #[.int .i64 x, .string s] 28 (0, 0)) := by rw [hw2.out]; (focus (repeat' first | with_reducible assumption | (with_reducible refine heap_drew ?_) | (with_reducible refine heap_drewN ?_) | (with_reducible refine heap_new ?_; focus (first | rfl | omega | (simp; done))) | (with_reducible refine heap_old ?_) | (with_reducible apply heap_near') | ((with_reducible show Array.setIfInBounds _ _ _ = _); rfl) | (with_reducible refine heap_far ?_ ?_; focus (first | omega | (simp; omega) | (simp; done))) | (with_reducible apply heap_grown; with_reducible assumption; (focus (first | omega | (simp; omega)))) | (with_reducible apply heap_call; with_reducible assumption)))
      have hz2 : w1.heap.size < w2.heap.size := by rw [hw2.out, size_alloc_]; exact Nat.lt_succ_self _
      have hb02 : Below w.heap.size w w2 := by
        have hb01 : Below w.heap.size w w1 := by (refine bel_out ?_; (focus (repeat' first | (with_reducible refine bel_refl ?_) | with_reducible assumption | with_reducible refine bel_drew ?_ | with_reducible refine bel_drewN _ ?_ | with_reducible refine bel_alloc _ ?_ | with_reducible refine bel_set ?_ _ ?_ | (with_reducible apply bel_call; with_reducible assumption) | (with_reducible apply bel_owg; with_reducible assumption; (focus omega)) | with_reducible exact Nat.le_refl _ | omega | (simp; done) | (simp; omega))))
        rw [hw2.out]
        exact hb01.alloc hb01.size _
      have HK : Hid (∀ k, k < (PC s).length → w2.cell? ⟨w1.heap.size, k, none⟩ = some (.string ((PC s).getD k ByteArray.empty))) := Lib.hid fun k hk => by rw [hw2.out]; exact PC_cell _ _ _ _ hk
      have hle := PC_len s
      have HA : Hid (∀ k, k < (PC s).length → badP ((PC s).getD k ByteArray.empty) = true → (PC s).any badP = true) := Lib.hid fun k hk h => any_bad hk h
      have HG : Hid ((∀ k, k < (PC s).length → badP ((PC s).getD k ByteArray.empty) = false) → (PC s).any badP = false) := Lib.hid any_good
      have hzw : w.heap.size < w2.heap.size := Nat.lt_of_le_of_lt (Nat.le_trans (Nat.le_succ _) (by have := hb1.size; rw [size_alloc_] at this; exact this)) hz2
      have HSM : Hid (∀ k, ((PC s).getD k ByteArray.empty).size ≤ 100) := Lib.hid fun k => by rw [← PCt_all]; exact Nat.le_trans (PCt_small k) h4
      clear hw2 hb1 HC HS
      generalize w1.heap.size = g at *
      generalize (PC s).any badP = anb at *
      generalize PC s = L at *
      have k0 := Blk.cell hx2 0
      clear hx2
      generalize hN : L.length = N at *
      clear hN
      go_loopw [37] (fun v wr => ∃ k : Nat, k ≤ N ∧ v = .int .i64 k ∧ wr = w2 ∧ Hid (∀ j, j < k → badP (L.getD j ByteArray.empty) = false)) (fun v _ => N - (intOf v).toNat)
      case atStart => exact ⟨0, Nat.zero_le _, rfl, rfl, Lib.hid fun j h => by omega⟩
      case round =>
        obtain ⟨k, hk, rfl, hwr, HB⟩ := hrel
        obtain rfl := hwr.symm
        by_cases hlt : k < N
        · have c1 := HK.out k hlt
          have HA1 := Lib.hid (HA.out k hlt)
          have HN : Hid (badP (L.getD k ByteArray.empty) = false → ∀ j, j < k + 1 → badP (L.getD j ByteArray.empty) = false) := Lib.hid fun h j hj => by
            rcases Nat.lt_or_ge j k with h1 | h1
            · exact HB.out j h1
            · obtain rfl : j = k := by omega
              exact h
          have z0 : (0 : Int) ≤ (k : Int) := by omega
          have z1 : (k : Int) < (N : Int) := by omega
          have z8 := HSM.out k
          generalize L.getD k ByteArray.empty = p at *
          clear HA HG HB HK HSM
          by_cases e1 : p.size = 0
          · have HR : Hid (tv x s = false) := Lib.hid (by rw [HT.out, HA1.out (by unfold badP; rw [dif_neg (by omega)])]; rfl)
            obtain rfl : p = ByteArray.empty := by
              apply ByteArray.ext
              apply Array.eq_empty_of_size_eq_zero
              exact e1
            go_wp2_with fail
            go_ret
            exact ⟨by rw [HR.out]; rfl, hb02⟩
          · have hE := badP_eq (p := p) (by omega)
            have hn1 : ¬ p = ByteArray.empty := fun e => e1 (by rw [e]; rfl)
            have q5a : ¬ p.toList = [] := fun e => hn1 (by rw [ByteArray.toList_eq] at e; exact ByteArray.ext (Array.toList_inj.1 e))
            have q5 : p.toList.isEmpty = false := by simpa using q5a
            have z2 : (0 : Int) < (p.size : Int) := by omega
            have z3 : 0 < p.size := by omega
            have z4 : (p.size : Int) - 1 < (p.size : Int) := by omega
            have z5 : (0 : Int) ≤ (p.size : Int) - 1 := by omega
            have z6 : ((p.size : Int) - 1).toNat = p.size - 1 := by omega
            have z7 : p.size - 1 < p.size := by omega
            clear hn1
            by_cases e2 : p[0] = 32
            · have HR : Hid (tv x s = false) := Lib.hid (by rw [HT.out, HA1.out (by rw [hE, e2]; rfl)]; rfl)
              have q6 : ((p[0].toNat : Int) == 32) = true := by rw [e2]; rfl
              clear hE e2
              go_wp2_with fail
              go_ret
              exact ⟨by rw [HR.out]; rfl, hb02⟩
            have q6 : ((p[0].toNat : Int) == 32) = false := (@u8_eq p[0] 32).trans (decide_eq_false e2)
            by_cases e3 : p[p.size - 1] = 32
            · have HR : Hid (tv x s = false) := Lib.hid (by rw [HT.out, HA1.out (by rw [hE, e3]; simp)]; rfl)
              have q7 : ((p[p.size - 1].toNat : Int) == 32) = true := by rw [e3]; rfl
              clear hE e2 e3
              go_wp2_with fail
              go_ret
              exact ⟨by rw [HR.out]; rfl, hb02⟩
            have q7 : ((p[p.size - 1].toNat : Int) == 32) = false := (@u8_eq p[p.size - 1] 32).trans (decide_eq_false e3)
            have HN2 := Lib.hid (HN.out (by rw [hE]; simp [e2, e3]))
            clear hE e2 e3 HN HA1
            go_wp2_with fail
            go_roundw
            case rel => exact ⟨k + 1, by omega, by go_num, (by first | rfl | trivial), HN2⟩
            case measure => simp [intOf]; omega
        · obtain rfl : k = N := by omega
          have HR : Hid (anb = false) := Lib.hid (HG.out HB.out)
          have z0 : 0 < s.size := by omega
          have z1 : (0 : Int) < (s.size : Int) := by omega
          clear HK HA HG HB
          by_cases e1 : s[0] = 58
          · have HR2 : Hid (tv x s = false) := Lib.hid (by rw [HT.out, HR.out, e1]; simp)
            have q5 : ((s[0].toNat : Int) == 58) = true := by rw [e1]; rfl
            clear e1
            go_wp2_with fail
            go_ret
            exact ⟨by rw [HR2.out]; rfl, hb02⟩
          have q5 : ((s[0].toNat : Int) == 58) = false := (@u8_eq s[0] 58).trans (decide_eq_false e1)
          by_cases e2 : 97 ≤ s[0].toNat
          · have q6 : (97 : Int) ≤ (s[0].toNat : Int) := by omega
            by_cases e3 : s[0].toNat ≤ 122
            · have q7 : (s[0].toNat : Int) ≤ 122 := by omega
              have HR2 : Hid (tv x s = false) := Lib.hid (by rw [HT.out, HR.out]; simp [e2, e3])
              clear e1
              go_wp2_with fail
              go_ret
              exact ⟨by rw [HR2.out]; rfl, hb02⟩
            have q7 : ¬ (s[0].toNat : Int) ≤ 122 := by omega
            have HR2 : Hid (tv x s = (decide (x ≠ 0) || !nm)) := Lib.hid (by rw [HT.out, HR.out]; simp [e1, e2, e3])
            clear e1
            by_cases e4 : x = 0
            · subst e4
              have HR3 : Hid (tv 0 s = !nm) := Lib.hid (by rw [HR2.out]; simp)
              go_wp2_with (go_at_call 66; refine (HP.out _ ?_).mono ?_; (focus (refine HM.out _ ?_; (refine bel_out ?_; (focus (repeat' first | (with_reducible refine bel_refl ?_) | with_reducible assumption | with_reducible refine bel_drew ?_ | with_reducible refine bel_drewN _ ?_ | with_reducible refine bel_alloc _ ?_ | with_reducible refine bel_set ?_ _ ?_ | (with_reducible apply bel_call; with_reducible assumption) | (with_reducible apply bel_owg; with_reducible assumption; (focus omega)) | with_reducible exact Nat.le_refl _ | omega | (simp; done) | (simp; omega)))))); rintro e w3 ⟨⟨pa, pb, rfl⟩, hb3⟩; have k3 := (hb3.cell (p := ⟨w.heap.size, 0, none⟩) hzw).trans k0)
              go_ret
              exact ⟨by rw [HR3.out]; rfl, below_call hb02 hb3⟩
            · have q8 : (x == 0) = false := by simpa using e4
              have HR3 : Hid (tv x s = true) := Lib.hid (by rw [HR2.out]; simp [e4])
              go_wp2_with (go_at_call 66; refine (HP.out _ ?_).mono ?_; (focus (refine HM.out _ ?_; (refine bel_out ?_; (focus (repeat' first | (with_reducible refine bel_refl ?_) | with_reducible assumption | with_reducible refine bel_drew ?_ | with_reducible refine bel_drewN _ ?_ | with_reducible refine bel_alloc _ ?_ | with_reducible refine bel_set ?_ _ ?_ | (with_reducible apply bel_call; with_reducible assumption) | (with_reducible apply bel_owg; with_reducible assumption; (focus omega)) | with_reducible exact Nat.le_refl _ | omega | (simp; done) | (simp; omega)))))); rintro e w3 ⟨⟨pa, pb, rfl⟩, hb3⟩; have k3 := (hb3.cell (p := ⟨w.heap.size, 0, none⟩) hzw).trans k0)
              go_ret
              exact ⟨by rw [HR3.out]; rfl, below_call hb02 hb3⟩
          have q6 : ¬ (97 : Int) ≤ (s[0].toNat : Int) := by omega
          have HR2 : Hid (tv x s = (decide (x ≠ 0) || !nm)) := Lib.hid (by rw [HT.out, HR.out]; simp [e1, e2])
          clear e1
          by_cases e4 : x = 0
          · subst e4
            have HR3 : Hid (tv 0 s = !nm) := Lib.hid (by rw [HR2.out]; simp)
            go_wp2_with (go_at_call 66; refine (HP.out _ ?_).mono ?_; (focus (refine HM.out _ ?_; (refine bel_out ?_; (focus (repeat' first | (with_reducible refine bel_refl ?_) | with_reducible assumption | with_reducible refine bel_drew ?_ | with_reducible refine bel_drewN _ ?_ | with_reducible refine bel_alloc _ ?_ | with_reducible refine bel_set ?_ _ ?_ | (with_reducible apply bel_call; with_reducible assumption) | (with_reducible apply bel_owg; with_reducible assumption; (focus omega)) | with_reducible exact Nat.le_refl _ | omega | (simp; done) | (simp; omega)))))); rintro e w3 ⟨⟨pa, pb, rfl⟩, hb3⟩; have k3 := (hb3.cell (p := ⟨w.heap.size, 0, none⟩) hzw).trans k0)
            go_ret
            exact ⟨by rw [HR3.out]; rfl, below_call hb02 hb3⟩
          · have q8 : (x == 0) = false := by simpa using e4
            have HR3 : Hid (tv x s = true) := Lib.hid (by rw [HR2.out]; simp [e4])
            go_wp2_with (go_at_call 66; refine (HP.out _ ?_).mono ?_; (focus (refine HM.out _ ?_; (refine bel_out ?_; (focus (repeat' first | (with_reducible refine bel_refl ?_) | with_reducible assumption | with_reducible refine bel_drew ?_ | with_reducible refine bel_drewN _ ?_ | with_reducible refine bel_alloc _ ?_ | with_reducible refine bel_set ?_ _ ?_ | (with_reducible apply bel_call; with_reducible assumption) | (with_reducible apply bel_owg; with_reducible assumption; (focus omega)) | with_reducible exact Nat.le_refl _ | omega | (simp; done) | (simp; omega)))))); rintro e w3 ⟨⟨pa, pb, rfl⟩, hb3⟩; have k3 := (hb3.cell (p := ⟨w.heap.size, 0, none⟩) hzw).trans k0)
            go_ret
            exact ⟨by rw [HR3.out]; rfl, below_call hb02 hb3⟩
  · have hT : Hid (tv x s = false) := Lib.hid (by unfold tv; rw [dif_neg h])
    by_cases h1 : x < 0
    · go_enter Tryd.func48, Tryd.ntmps48
      go_wp2_with fail
      go_ret
      exact ⟨by rw [hT.out]; rfl, by (refine bel_out ?_; (focus (repeat' first | (with_reducible refine bel_refl ?_) | with_reducible assumption | with_reducible refine bel_drew ?_ | with_reducible refine bel_drewN _ ?_ | with_reducible refine bel_alloc _ ?_ | with_reducible refine bel_set ?_ _ ?_ | (with_reducible apply bel_call; with_reducible assumption) | (with_reducible apply bel_owg; with_reducible assumption; (focus omega)) | with_reducible exact Nat.le_refl _ | omega | (simp; done) | (simp; omega))))⟩
    by_cases h2 : 6 ≤ x
    · go_enter Tryd.func48, Tryd.ntmps48
      go_wp2_with fail
      go_ret
      exact ⟨by rw [hT.out]; rfl, by (refine bel_out ?_; (focus (repeat' first | (with_reducible refine bel_refl ?_) | with_reducible assumption | with_reducible refine bel_drew ?_ | with_reducible refine bel_drewN _ ?_ | with_reducible refine bel_alloc _ ?_ | with_reducible refine bel_set ?_ _ ?_ | (with_reducible apply bel_call; with_reducible assumption) | (with_reducible apply bel_owg; with_reducible assumption; (focus omega)) | with_reducible exact Nat.le_refl _ | omega | (simp; done) | (simp; omega))))⟩
    by_cases h3 : (s.size : Int) < 1
    · go_enter Tryd.func48, Tryd.ntmps48
      go_wp2_with fail
      go_ret
      exact ⟨by rw [hT.out]; rfl, by (refine bel_out ?_; (focus (repeat' first | (with_reducible refine bel_refl ?_) | with_reducible assumption | with_reducible refine bel_drew ?_ | with_reducible refine bel_drewN _ ?_ | with_reducible refine bel_alloc _ ?_ | with_reducible refine bel_set ?_ _ ?_ | (with_reducible apply bel_call; with_reducible assumption) | (with_reducible apply bel_owg; with_reducible assumption; (focus omega)) | with_reducible exact Nat.le_refl _ | omega | (simp; done) | (simp; omega))))⟩
    have h4 : (100 : Int) < (s.size : Int) := by omega
    go_enter Tryd.func48, Tryd.ntmps48
    go_wp2_with fail
    go_ret
    exact ⟨by rw [hT.out]; rfl, by (refine bel_out ?_; (focus (repeat' first | (with_reducible refine bel_refl ?_) | with_reducible assumption | with_reducible refine bel_drew ?_ | with_reducible refine bel_drewN _ ?_ | with_reducible refine bel_alloc _ ?_ | with_reducible refine bel_set ?_ _ ?_ | (with_reducible apply bel_call; with_reducible assumption) | (with_reducible apply bel_owg; with_reducible assumption; (focus omega)) | with_reducible exact Nat.le_refl _ | omega | (simp; done) | (simp; omega))))⟩
end Go.Proofs.YtbeijpajodgpeaaDoor
/- The walks of trcref1: lower, sameLetters, SpaceName, Index, prefixed. -/
namespace Go.Proofs.YtbeijpajodgpeaaDoor
open Go.RowKit
set_option linter.unusedSimpArgs false
set_option linter.unusedVariables false

theorem lower_any (c : UInt8) (w : World) : Calls Tryd.prog 90 #[.int .u8 (c.toNat : Int)] w fun e w' => e = .returned (.int .u8 ((ch c).toNat : Int)) ∧ w' = w := by
  have hcn := ch_toNat c
  have hci := UInt8.toNat_lt c
  generalize ch c = d at *
  by_cases h1 : 65 ≤ c.toNat
  · have q1 : (65 : Int) ≤ (c.toNat : Int) := by omega
    by_cases h2 : c.toNat ≤ 90
    · have q2 : (c.toNat : Int) ≤ 90 := by omega
      have q3 : IntKind.u8.wrap ((c.toNat : Int) + 32) = (d.toNat : Int) := by rw [IntKind.wrap_u8', hcn]; simp [h1, h2]; omega
      have q4 : (c.toNat : Int) + 32 = (d.toNat : Int) := by rw [hcn]; simp [h1, h2]
      clear hcn
      go_enter Tryd.func90, Tryd.ntmps90
      go_wp2
      go_ret
      exact ⟨by rfl, rfl⟩
    · have q2 : ¬ (c.toNat : Int) ≤ 90 := by omega
      have q4 : (d.toNat : Int) = (c.toNat : Int) := by rw [hcn]; simp [h1, h2]
      rw [q4]
      clear hcn q4
      go_enter Tryd.func90, Tryd.ntmps90
      go_wp2
      go_ret
      exact ⟨by rfl, rfl⟩
  · have q1 : ¬ (65 : Int) ≤ (c.toNat : Int) := by omega
    have q4 : (d.toNat : Int) = (c.toNat : Int) := by rw [hcn]; simp [h1]
    rw [q4]
    clear hcn q4
    go_enter Tryd.func90, Tryd.ntmps90
    go_wp2
    go_ret
    exact ⟨by rfl, rfl⟩

theorem spacename_any (k : Nat) (w : World) (h1 : 1 ≤ k) (h6 : k < 6) : Calls Tryd.prog 83 #[.int .i64 k] w fun e w' => e = .returned (.string (names.getD k ByteArray.empty)) ∧ Below w.heap.size w w' := by
  obtain rfl | rfl | rfl | rfl | rfl : k = 1 ∨ k = 2 ∨ k = 3 ∨ k = 4 ∨ k = 5 := by omega
  all_goals
    go_enter Tryd.func83, Tryd.ntmps83
    go_wp2
    go_ret
    exact ⟨by rfl, by (refine bel_out ?_; (focus (repeat' first | (with_reducible refine bel_refl ?_) | with_reducible assumption | with_reducible refine bel_drew ?_ | with_reducible refine bel_drewN _ ?_ | with_reducible refine bel_alloc _ ?_ | with_reducible refine bel_set ?_ _ ?_ | (with_reducible apply bel_call; with_reducible assumption) | (with_reducible apply bel_owg; with_reducible assumption; (focus omega)) | with_reducible exact Nat.le_refl _ | omega | (simp; done) | (simp; omega))))⟩

theorem lows_next {a b : List UInt8} {k : Nat} (ha : k < a.length) (hb : k < b.length) (h : (a.take k).map ch = (b.take k).map ch) (hc : ch (a.getD k 0) = ch (b.getD k 0)) : (a.take (k + 1)).map ch = (b.take (k + 1)).map ch := by
  rw [List.take_add_one, List.take_add_one, List.map_append, List.map_append, h, List.getElem?_eq_getElem ha, List.getElem?_eq_getElem hb]
  simp only [List.getD, List.getElem?_eq_getElem ha, List.getElem?_eq_getElem hb, Option.getD_some] at hc
  simp [hc]
theorem lows_ne {a b : List UInt8} {k : Nat} (ha : k < a.length) (hb : k < b.length) (hc : ch (a.getD k 0) ≠ ch (b.getD k 0)) : a.map ch ≠ b.map ch := by
  intro h
  apply hc
  have h2 := congrArg (fun l : List UInt8 => l[k]?) h
  simp only [List.getElem?_map, List.getElem?_eq_getElem ha, List.getElem?_eq_getElem hb, Option.map_some, Option.some.injEq] at h2
  simpa [List.getD, List.getElem?_eq_getElem ha, List.getElem?_eq_getElem hb] using h2
theorem getD_bl {s : ByteArray} {k : Nat} (h : k < s.size) : (bl s).getD k 0 = s[k] := by
  have h2 : k < (bl s).length := by rw [bl_len]; exact h
  simp [List.getD, List.getElem?_eq_getElem h2]
  exact bl_get h

set_option maxRecDepth 100000 in
set_option maxHeartbeats 4000000 in
theorem same_letters (a b : ByteArray) (w : World) (ha : a.size ≤ 1000) (hb : b.size ≤ 1000) :
    Calls Tryd.prog 82 #[.string a, .string b] w fun e w' => e = .returned (.bool (decide ((bl a).map ch = (bl b).map ch))) ∧ Below w.heap.size w w' := by
  by_cases hz : a.size = b.size
  · have HL := Lib.hid fun (c : UInt8) (W : World) => lower_any c W
    go_enter Tryd.func82, Tryd.ntmps82
    go_wp2
    go_loopw [5] (fun v wr => ∃ k : Nat, k ≤ a.size ∧ v = .int .i64 k ∧ Below w.heap.size w wr ∧ Hid (((bl a).take k).map ch = ((bl b).take k).map ch)) (fun v _ => a.size - (intOf v).toNat)
    case atStart => exact ⟨0, Nat.zero_le _, rfl, Below.refl _ _, Lib.hid rfl⟩
    case round =>
      obtain ⟨k, hk, rfl, hbw, HB⟩ := hrel
      by_cases hlt : k < a.size
      · have hlt2 : k < b.size := by omega
        have z0 : (0 : Int) ≤ (k : Int) := by omega
        have z1 : (k : Int) < (a.size : Int) := by omega
        have z2 : (k : Int) < (b.size : Int) := by omega
        have HX : Hid (ch a[k] = ch b[k] → ((bl a).take (k + 1)).map ch = ((bl b).take (k + 1)).map ch) := Lib.hid fun h => lows_next (by rw [bl_len]; exact hlt) (by rw [bl_len]; exact hlt2) HB.out (by rw [getD_bl hlt, getD_bl hlt2]; exact h)
        have HY : Hid (ch a[k] ≠ ch b[k] → ¬ (bl a).map ch = (bl b).map ch) := Lib.hid fun h => lows_ne (k := k) (by rw [bl_len]; exact hlt) (by rw [bl_len]; exact hlt2) (by rw [getD_bl hlt, getD_bl hlt2]; exact h)
        by_cases hc : ch a[k] = ch b[k]
        · have hq : (((ch a[k]).toNat : Int) != ((ch b[k]).toNat : Int)) = false := by rw [hc]; simp
          have hq2 : (((ch a[k]).toNat : Int) == ((ch b[k]).toNat : Int)) = true := by rw [hc]; simp
          have HN := Lib.hid (HX.out hc)
          clear HX HY hc HB
          go_wp2_with fail
          go_quiet ((go_at_call 90; exact Calls.quiet_of_same (HL.out _ _)))
          go_wp2
          go_roundw
          case rel => exact ⟨k + 1, by omega, by go_num, below_drewN hbw _, HN⟩
          case measure => simp [intOf]; omega
        · have hq2 : (((ch a[k]).toNat : Int) == ((ch b[k]).toNat : Int)) = false := u8_eq.trans (decide_eq_false hc)
          have hq : (((ch a[k]).toNat : Int) != ((ch b[k]).toNat : Int)) = true := by rw [bne, hq2]; rfl
          have HN := Lib.hid (decide_eq_false (HY.out hc))
          clear HX HY hc HB
          go_wp2_with fail
          go_quiet ((go_at_call 90; exact Calls.quiet_of_same (HL.out _ _)))
          go_wp2
          go_ret
          exact ⟨by rw [HN.out]; rfl, below_drewN hbw _⟩
      · obtain rfl : k = a.size := by omega
        have HN : Hid (decide ((bl a).map ch = (bl b).map ch) = true) := Lib.hid (decide_eq_true (by
          have := HB.out
          rw [List.take_of_length_le (by rw [bl_len]; exact Nat.le_refl _), List.take_of_length_le (by rw [bl_len]; omega)] at this
          exact this))
        go_wp2
        go_ret
        exact ⟨by rw [HN.out]; rfl, hbw⟩
  · have HN : Hid (decide ((bl a).map ch = (bl b).map ch) = false) := Lib.hid (decide_eq_false fun h => hz (by
      have := congrArg List.length h
      simpa using this))
    have hq : ((a.size : Int) == (b.size : Int)) = false := by simp; omega
    have hq2 : ((a.size : Int) != (b.size : Int)) = true := by simp; omega
    go_enter Tryd.func82, Tryd.ntmps82
    go_wp2
    go_ret
    exact ⟨by rw [HN.out]; rfl, Below.refl _ _⟩

set_option maxRecDepth 100000 in
set_option maxHeartbeats 4000000 in
theorem index_any (s t : ByteArray) (w : World) (hs : s.size ≤ 1000) (ht0 : 0 < t.size) (ht : t.size ≤ 1000) :
    Calls Tryd.prog 68 #[.string s, .string t, .int .i64 0] w fun e w' => e = .returned (.int .i64 (Lib.index (bl s) (bl t))) ∧ w' = w := by
  go_enter Tryd.func68, Tryd.ntmps68
  go_wp2
  go_loopw [7] (fun v wr => ∃ k : Nat, k ≤ s.size ∧ v = .int .i64 k ∧ wr = w ∧ Hid (∀ j, j < k → Lib.occAt (bl s) (bl t) j = false)) (fun v _ => s.size + 1 - (intOf v).toNat)
  case atStart => exact ⟨0, Nat.zero_le _, rfl, rfl, Lib.hid fun j h => by omega⟩
  case round =>
    obtain ⟨k, hk, rfl, hwr, HB⟩ := hrel
    obtain rfl := hwr.symm
    by_cases hlt : k + t.size ≤ s.size
    · have z0 : (0 : Int) ≤ (k : Int) := by omega
      have z1 : (k : Int) + (t.size : Int) ≤ (s.size : Int) := by omega
      have z2 : (k : Int) ≤ (k : Int) + (t.size : Int) := by omega
      have hx : Lib.occAt (bl s) (bl t) k = ((s.extract k (k + t.size)).toList == t.toList) := by
        rw [Lib.occAt_iff_take _ _ _ (by rw [bl_len, bl_len]; exact hlt), bl_len, Lib.extract_toList, Lib.toList_data, Nat.add_sub_cancel_left]
      by_cases hc : ((s.extract k (k + t.size)).toList == t.toList) = true
      · have HR : Hid (Lib.index (bl s) (bl t) = k) := Lib.hid (Lib.index_first (by rw [bl_len]; exact hk) (by rw [hx]; exact hc) HB.out)
        clear hx HB
        go_wp2
        go_ret
        exact ⟨by rw [HR.out]; rfl, rfl⟩
      · have hc2 : ((s.extract k (k + t.size)).toList == t.toList) = false := by simpa using hc
        have HN : Hid (∀ j, j < k + 1 → Lib.occAt (bl s) (bl t) j = false) := Lib.hid fun j hj => by
          rcases Nat.lt_or_ge j k with h1 | h1
          · exact HB.out j h1
          · obtain rfl : j = k := by omega
            rw [hx, hc2]
        clear hx HB hc
        go_wp2
        go_roundw
        case rel => exact ⟨k + 1, by omega, by go_num, (by first | rfl | trivial), HN⟩
        case measure => simp [intOf]; omega
    · have z1 : ¬ (k : Int) + (t.size : Int) ≤ (s.size : Int) := by omega
      have HR : Hid (Lib.index (bl s) (bl t) = -1) := Lib.hid (Lib.index_none fun j hj => by
        rcases Nat.lt_or_ge j k with h1 | h1
        · exact HB.out j h1
        · cases e : Lib.occAt (bl s) (bl t) j with
          | false => rfl
          | true =>
            rcases Lib.occAt_room e with h2 | h2
            · rw [bl_len, bl_len] at h2; omega
            · have := congrArg List.length h2
              rw [bl_len] at this
              have h0 : t.size = 0 := this
              omega)
      clear HB
      go_wp2
      go_ret
      exact ⟨by rw [HR.out]; rfl, rfl⟩
end Go.Proofs.YtbeijpajodgpeaaDoor
/- The walk of trcref1.prefixed. -/
namespace Go.Proofs.YtbeijpajodgpeaaDoor
open Go.RowKit
set_option linter.unusedSimpArgs false
set_option linter.unusedVariables false

theorem bl_extract (s : ByteArray) (i : Nat) : bl (s.extract 0 i) = (bl s).take i := by
  show (s.extract 0 i).data.toList = _
  rw [Lib.extract_data, List.drop_zero, Nat.sub_zero]
theorem trim_yes {p : ByteArray} (h : 0 < p.size) (hc : p[p.size - 1] = 32) : Lib.trimSuffix (bl p) [32] = bl (p.extract 0 (p.size - 1)) := by
  have hl : (bl p).length = (p.size - 1) + 1 := by rw [bl_len]; omega
  have h2 := bl_take (s := p) (k := p.size - 1) (by omega)
  rw [hc, List.take_of_length_le (by omega)] at h2
  unfold Lib.trimSuffix Lib.hasSuffix
  rw [if_pos (List.isSuffixOf_iff_suffix.2 ⟨_, h2.symm⟩), bl_extract, bl_len]
  rfl
theorem trim_no {p : ByteArray} (h : ∀ h : 0 < p.size, p[p.size - 1] ≠ 32) : Lib.trimSuffix (bl p) [32] = bl p := by
  unfold Lib.trimSuffix Lib.hasSuffix
  rw [if_neg]
  intro hs
  obtain ⟨l, hl⟩ := List.isSuffixOf_iff_suffix.1 hs
  have hz : p.size = l.length + 1 := by rw [← bl_len, ← hl]; simp
  apply h (by omega)
  have e : p[p.size - 1]'(by omega) = (bl p).getD (p.size - 1) 0 := (getD_bl (by omega)).symm
  rw [e, ← hl]
  have e2 : p.size - 1 = l.length := by omega
  rw [e2]
  simp

set_option maxRecDepth 100000 in
set_option maxHeartbeats 4000000 in
theorem prefixed_any (s : ByteArray) (w : World) (hs : s.size ≤ 1000) :
    Calls Tryd.prog 70 #[.string s] w fun e w' => (∃ (a b : Int), e = .returned (.tuple #[.int .i64 a, .int .i64 b]) ∧ (a == 0) = !nmd (bl s)) ∧ Below w.heap.size w w' := by
  have HI : Hid (∀ W : World, Calls Tryd.prog 68 #[.string s, .string ⟨#[58]⟩, .int .i64 0] W fun e w' => e = .returned (.int .i64 (Lib.index (bl s) [58])) ∧ w' = W) := Lib.hid fun W => index_any s ⟨#[58]⟩ W hs (by decide) (by decide)
  by_cases hi : 0 ≤ Lib.index (bl s) [58]
  · obtain ⟨i, hi2⟩ : ∃ i : Nat, Lib.index (bl s) [58] = i := ⟨(Lib.index (bl s) [58]).toNat, by omega⟩
    have hroom := Lib.index_room (bl s) [58] hi
    rw [hi2] at HI hroom
    have hil : i < s.size := by rw [bl_len] at hroom; simp at hroom; omega
    have z0 : (0 : Int) ≤ (i : Int) := by omega
    have z1 : (i : Int) ≤ (s.size : Int) := by omega
    have hN : nmd (bl s) = isSp (Lib.trimSuffix (bl (s.extract 0 i)) [32]) := by
      unfold nmd
      rw [decide_eq_true hi, hi2, bl_extract]
      rfl
    have hpz : (s.extract 0 i).size = i := by rw [← bl_len, bl_extract, List.length_take, bl_len]; omega
    -- the loop over the names
    have HS := Lib.hid fun (k : Nat) (W : World) (h1 : 1 ≤ k) (h6 : k < 6) => spacename_any k W h1 h6
    have HL := Lib.hid fun (p : ByteArray) (k : Nat) (W : World) (hp : p.size ≤ 1000) => same_letters p (names.getD k ByteArray.empty) W hp (by
      have : ∀ j : Fin 6, (names.getD j.val ByteArray.empty).size ≤ 100 := by decide +kernel
      rcases Nat.lt_or_ge k 6 with h | h
      · have := this ⟨k, h⟩; simp only at this; omega
      · rw [show names.getD k ByteArray.empty = ByteArray.empty by simp [List.getD, List.getElem?_eq_none (show names.length ≤ k from h)]]; decide)
    generalize hP : s.extract 0 i = P at *
    by_cases hsp : ∃ h : 0 < P.size, P[P.size - 1] = 32
    · obtain ⟨h0, h1⟩ := hsp
      rw [trim_yes h0 h1] at hN
      have y1 : ((P[P.size - 1].toNat : Int) == 32) = true := by rw [h1]; rfl
      have y2 : (0 : Int) < (P.size : Int) := by omega
      have y3 : P.size ≤ 1000 := by omega
      have y4 : (P.size : Int) - 1 < (P.size : Int) := by omega
      have y5 : (0 : Int) ≤ (P.size : Int) - 1 := by omega
      have y6 : ((P.size : Int) - 1).toNat = P.size - 1 := by omega
      have y7 : P.size - 1 < P.size := by omega
      have y8 : (P.size : Int) - 1 ≤ (P.size : Int) := by omega
      have hq : (P.extract 0 (P.size - 1)).size ≤ 1000 := by rw [← bl_len, bl_extract, List.length_take, bl_len]; omega
      have HN := Lib.hid hN
      have HQ := Lib.hid hq
      clear hN hi hi2 hroom h1 hq hpz
      go_enter Tryd.func70, Tryd.ntmps70
      go_wp2_with (go_at_call 68; refine (HI.out _).mono ?_; rintro e w1 ⟨rfl, hwn⟩; obtain rfl := hwn.symm)
      generalize P.extract 0 (P.size - 1) = Q at *
      go_loopw [6] (fun v wr => ∃ k : Nat, 1 ≤ k ∧ k ≤ 6 ∧ v = .int .i64 k ∧ Below w.heap.size w wr ∧ Hid (∀ j, 1 ≤ j → j < k → (bl Q).map ch ≠ (bl (names.getD j ByteArray.empty)).map ch)) (fun v _ => 6 - (intOf v).toNat)
      case atStart => exact ⟨1, by omega, by omega, rfl, Below.refl _ _, Lib.hid fun j h1 h2 => by omega⟩
      case round =>
        obtain ⟨k, hk1, hk, rfl, hbw, HJ⟩ := hrel
        by_cases hlt : k < 6
        · have HS2 := Lib.hid fun W => HS.out k W hk1 hlt
          have HL2 := Lib.hid fun W => HL.out Q k W HQ.out
          have z2 : (k : Int) < 6 := by omega
          by_cases hq : (bl Q).map ch = (bl (names.getD k ByteArray.empty)).map ch
          · have HR : Hid (isSp (bl Q) = true) := Lib.hid (isSp_hit hk1 hlt hq)
            rw [decide_eq_true hq] at HL2
            clear hq
            generalize names.getD k ByteArray.empty = nk at *
            go_wp2_with (first
              | (go_at_call 83; refine (HS2.out _).mono ?_; rintro e w2 ⟨rfl, hb2⟩)
              | (go_at_call 82; refine (HL2.out _).mono ?_; rintro e w3 ⟨rfl, hb3⟩))
            refine bodyPost_ret (v := .tuple #[.int .i64 k, .int .i64 i]) ?_ rfl ⟨⟨_, _, rfl, by rw [HN.out, HR.out]; simp; omega⟩, below_call (below_call hbw hb2) hb3⟩
            simp [results, Tryd.results70, go_sem]
          · have HJ2 : Hid (∀ j, 1 ≤ j → j < k + 1 → (bl Q).map ch ≠ (bl (names.getD j ByteArray.empty)).map ch) := Lib.hid fun j h1 h2 => by
              rcases Nat.lt_or_ge j k with h3 | h3
              · exact HJ.out j h1 h3
              · obtain rfl : j = k := by omega
                exact hq
            rw [decide_eq_false hq] at HL2
            clear hq HJ
            have HJ3 := Lib.hid HJ2
            clear HJ2
            generalize hnk : names.getD k ByteArray.empty = nk at HS2 HL2
            clear hnk
            go_wp2_with (first
              | (go_at_call 83; refine (HS2.out _).mono ?_; rintro e w2 ⟨rfl, hb2⟩)
              | (go_at_call 82; refine (HL2.out _).mono ?_; rintro e w3 ⟨rfl, hb3⟩))
            go_roundw
            case rel => exact ⟨k + 1, by omega, by omega, by go_num, below_call (below_call hbw hb2) hb3, HJ3.out⟩
            case measure => simp [intOf]; omega
        · obtain rfl : k = 6 := by omega
          have HR : Hid (isSp (bl Q) = false) := Lib.hid (isSp_miss HJ.out)
          go_wp2_with fail
          refine bodyPost_ret (v := .tuple #[.int .i64 0, .int .i64 0]) ?_ rfl ⟨⟨_, _, rfl, by rw [HN.out, HR.out]; rfl⟩, hbw⟩
          simp [results, Tryd.results70, go_sem]
    · obtain ⟨Q, hPQ⟩ : ∃ Q, Q = P := ⟨_, rfl⟩
      rw [trim_no (fun h e => hsp ⟨h, e⟩)] at hN
      have hq : P.size ≤ 1000 := by omega
      rw [← hPQ] at hN hq
      have HN := Lib.hid hN
      have HQ := Lib.hid hq
      clear hN hi hi2 hroom hq
      by_cases h0 : 0 < P.size
      · have h1 : P[P.size - 1] ≠ 32 := fun e => hsp ⟨h0, e⟩
        have y1 : ((P[P.size - 1].toNat : Int) == 32) = false := (@u8_eq _ 32).trans (decide_eq_false h1)
        have y2 : (0 : Int) < (P.size : Int) := by omega
        have y3 : P.size ≤ 1000 := by omega
        have y4 : (P.size : Int) - 1 < (P.size : Int) := by omega
        have y5 : (0 : Int) ≤ (P.size : Int) - 1 := by omega
        have y6 : ((P.size : Int) - 1).toNat = P.size - 1 := by omega
        have y7 : P.size - 1 < P.size := by omega
        clear h1 hsp hpz
        go_enter Tryd.func70, Tryd.ntmps70
        go_wp2_with (go_at_call 68; refine (HI.out _).mono ?_; rintro e w1 ⟨rfl, hwn⟩; obtain rfl := hwn.symm)
        subst hPQ
        go_loopw [6] (fun v wr => ∃ k : Nat, 1 ≤ k ∧ k ≤ 6 ∧ v = .int .i64 k ∧ Below w.heap.size w wr ∧ Hid (∀ j, 1 ≤ j → j < k → (bl Q).map ch ≠ (bl (names.getD j ByteArray.empty)).map ch)) (fun v _ => 6 - (intOf v).toNat)
        case atStart => exact ⟨1, by omega, by omega, rfl, Below.refl _ _, Lib.hid fun j h1 h2 => by omega⟩
        case round =>
          obtain ⟨k, hk1, hk, rfl, hbw, HJ⟩ := hrel
          by_cases hlt : k < 6
          · have HS2 := Lib.hid fun W => HS.out k W hk1 hlt
            have HL2 := Lib.hid fun W => HL.out Q k W HQ.out
            have z2 : (k : Int) < 6 := by omega
            by_cases hq : (bl Q).map ch = (bl (names.getD k ByteArray.empty)).map ch
            · have HR : Hid (isSp (bl Q) = true) := Lib.hid (isSp_hit hk1 hlt hq)
              rw [decide_eq_true hq] at HL2
              clear hq
              generalize names.getD k ByteArray.empty = nk at *
              go_wp2_with (first
                | (go_at_call 83; refine (HS2.out _).mono ?_; rintro e w2 ⟨rfl, hb2⟩)
                | (go_at_call 82; refine (HL2.out _).mono ?_; rintro e w3 ⟨rfl, hb3⟩))
              refine bodyPost_ret (v := .tuple #[.int .i64 k, .int .i64 i]) ?_ rfl ⟨⟨_, _, rfl, by rw [HN.out, HR.out]; simp; omega⟩, below_call (below_call hbw hb2) hb3⟩
              simp [results, Tryd.results70, go_sem]
            · have HJ2 : Hid (∀ j, 1 ≤ j → j < k + 1 → (bl Q).map ch ≠ (bl (names.getD j ByteArray.empty)).map ch) := Lib.hid fun j h1 h2 => by
                rcases Nat.lt_or_ge j k with h3 | h3
                · exact HJ.out j h1 h3
                · obtain rfl : j = k := by omega
                  exact hq
              rw [decide_eq_false hq] at HL2
              clear hq HJ
              have HJ3 := Lib.hid HJ2
              clear HJ2
              generalize hnk : names.getD k ByteArray.empty = nk at HS2 HL2
              clear hnk
              go_wp2_with (first
                | (go_at_call 83; refine (HS2.out _).mono ?_; rintro e w2 ⟨rfl, hb2⟩)
                | (go_at_call 82; refine (HL2.out _).mono ?_; rintro e w3 ⟨rfl, hb3⟩))
              go_roundw
              case rel => exact ⟨k + 1, by omega, by omega, by go_num, below_call (below_call hbw hb2) hb3, HJ3.out⟩
              case measure => simp [intOf]; omega
          · obtain rfl : k = 6 := by omega
            have HR : Hid (isSp (bl Q) = false) := Lib.hid (isSp_miss HJ.out)
            go_wp2_with fail
            refine bodyPost_ret (v := .tuple #[.int .i64 0, .int .i64 0]) ?_ rfl ⟨⟨_, _, rfl, by rw [HN.out, HR.out]; rfl⟩, hbw⟩
            simp [results, Tryd.results70, go_sem]
      · have y2 : ¬ (0 : Int) < (P.size : Int) := by omega
        clear hsp hpz
        go_enter Tryd.func70, Tryd.ntmps70
        go_wp2_with (go_at_call 68; refine (HI.out _).mono ?_; rintro e w1 ⟨rfl, hwn⟩; obtain rfl := hwn.symm)
        subst hPQ
        go_loopw [6] (fun v wr => ∃ k : Nat, 1 ≤ k ∧ k ≤ 6 ∧ v = .int .i64 k ∧ Below w.heap.size w wr ∧ Hid (∀ j, 1 ≤ j → j < k → (bl Q).map ch ≠ (bl (names.getD j ByteArray.empty)).map ch)) (fun v _ => 6 - (intOf v).toNat)
        case atStart => exact ⟨1, by omega, by omega, rfl, Below.refl _ _, Lib.hid fun j h1 h2 => by omega⟩
        case round =>
          obtain ⟨k, hk1, hk, rfl, hbw, HJ⟩ := hrel
          by_cases hlt : k < 6
          · have HS2 := Lib.hid fun W => HS.out k W hk1 hlt
            have HL2 := Lib.hid fun W => HL.out Q k W HQ.out
            have z2 : (k : Int) < 6 := by omega
            by_cases hq : (bl Q).map ch = (bl (names.getD k ByteArray.empty)).map ch
            · have HR : Hid (isSp (bl Q) = true) := Lib.hid (isSp_hit hk1 hlt hq)
              rw [decide_eq_true hq] at HL2
              clear hq
              generalize names.getD k ByteArray.empty = nk at *
              go_wp2_with (first
                | (go_at_call 83; refine (HS2.out _).mono ?_; rintro e w2 ⟨rfl, hb2⟩)
                | (go_at_call 82; refine (HL2.out _).mono ?_; rintro e w3 ⟨rfl, hb3⟩))
              refine bodyPost_ret (v := .tuple #[.int .i64 k, .int .i64 i]) ?_ rfl ⟨⟨_, _, rfl, by rw [HN.out, HR.out]; simp; omega⟩, below_call (below_call hbw hb2) hb3⟩
              simp [results, Tryd.results70, go_sem]
            · have HJ2 : Hid (∀ j, 1 ≤ j → j < k + 1 → (bl Q).map ch ≠ (bl (names.getD j ByteArray.empty)).map ch) := Lib.hid fun j h1 h2 => by
                rcases Nat.lt_or_ge j k with h3 | h3
                · exact HJ.out j h1 h3
                · obtain rfl : j = k := by omega
                  exact hq
              rw [decide_eq_false hq] at HL2
              clear hq HJ
              have HJ3 := Lib.hid HJ2
              clear HJ2
              generalize hnk : names.getD k ByteArray.empty = nk at HS2 HL2
              clear hnk
              go_wp2_with (first
                | (go_at_call 83; refine (HS2.out _).mono ?_; rintro e w2 ⟨rfl, hb2⟩)
                | (go_at_call 82; refine (HL2.out _).mono ?_; rintro e w3 ⟨rfl, hb3⟩))
              go_roundw
              case rel => exact ⟨k + 1, by omega, by omega, by go_num, below_call (below_call hbw hb2) hb3, HJ3.out⟩
              case measure => simp [intOf]; omega
          · obtain rfl : k = 6 := by omega
            have HR : Hid (isSp (bl Q) = false) := Lib.hid (isSp_miss HJ.out)
            go_wp2_with fail
            refine bodyPost_ret (v := .tuple #[.int .i64 0, .int .i64 0]) ?_ rfl ⟨⟨_, _, rfl, by rw [HN.out, HR.out]; rfl⟩, hbw⟩
            simp [results, Tryd.results70, go_sem]
  · have HN : Hid (nmd (bl s) = false) := Lib.hid (by unfold nmd; rw [decide_eq_false hi]; rfl)
    generalize Lib.index (bl s) [58] = i at *
    go_enter Tryd.func70, Tryd.ntmps70
    go_wp2_with (go_at_call 68; refine (HI.out _).mono ?_; rintro e w1 ⟨rfl, hwn⟩; obtain rfl := hwn.symm)
    refine bodyPost_ret (v := .tuple #[.int .i64 0, .int .i64 0]) ?_ rfl ⟨⟨_, _, rfl, by rw [HN.out]; rfl⟩, Below.refl _ _⟩
    simp [results, Tryd.results70, go_sem]
end Go.Proofs.YtbeijpajodgpeaaDoor
/- The walk of trcref1.Parts. -/
namespace Go.Proofs.YtbeijpajodgpeaaDoor
open Go.RowKit
set_option linter.unusedSimpArgs false
set_option linter.unusedVariables false

theorem OwS.of_vals {w : World} {base e n : Nat} {v : Value} {L : List ByteArray} (h : w.ownsRow base e 1 v n (L.map Value.string)) : ∃ A c, v = .slice A n c ∧ OwR RS 1 w base e A n c L := by
  obtain ⟨A, c, rfl, h1, h2⟩ := own_shape h
  refine ⟨A, c, rfl, ⟨by have := h.1; rw [List.length_map] at this; omega, h1, h2, _, h, fun k a hk => ?_⟩⟩
  show _ = [Value.string a]
  have hkl : k < L.length := by
    rcases Nat.lt_or_ge k L.length with h3 | h3
    · exact h3
    · rw [List.getElem?_eq_none h3] at hk; cases hk
  rw [Nat.mul_one, List.drop_eq_getElem_cons (by rw [List.length_map]; exact hkl)]
  rw [List.getElem?_eq_getElem hkl] at hk
  simp [Option.some.inj hk]
theorem OwS.vals {w : World} {base e n c : Nat} {A : Option Addr} {L : List ByteArray} (h : OwR RS 1 w base e A n c L) : w.ownsRow base e 1 (.slice A n c) n (L.map Value.string) := by
  obtain ⟨xs, h1, h2⟩ := h.own
  have hl : xs.length = L.length := by rw [h1.1, h.len]; omega
  have : xs = L.map Value.string := by
    apply List.ext_getElem?
    intro k
    rw [List.getElem?_map]
    rcases Nat.lt_or_ge k L.length with h3 | h3
    · have h4 : (xs.drop (k * 1)).take 1 = [Value.string L[k]] := h2 k _ (List.getElem?_eq_getElem h3)
      have h5 := congrArg (fun l : List Value => l[0]?) h4
      simp only [Nat.mul_one, List.getElem?_take, List.getElem?_drop] at h5
      rw [List.getElem?_eq_getElem h3]
      simpa using h5
    · rw [List.getElem?_eq_none h3, List.getElem?_eq_none (by omega)]
      rfl
  rw [← this]
  exact h1
theorem OwS.lit (w : World) (base e : Nat) (u : ByteArray) (hb : base ≤ w.heap.size) : OwR RS 1 (w.alloc (.cells #[.string u] e)) base e (some ⟨w.heap.size, 0, none⟩) 1 1 [u] := by
  have h := World.ownsRow_lit (base := base) (e := e) (size := 1) w #[.string u] 1 hb (by unfold maxLen; omega) rfl
  obtain ⟨A, c, e, ho⟩ := OwS.of_vals (L := [u]) h
  injection e with e1 e2 e3
  subst e1 e3
  exact ho
theorem OwS.block {w : World} {base e n c : Nat} {A : Option Addr} {L : List ByteArray} (h : OwR RS 1 w base e A n c L) (hn : 0 < n) : ∃ g, A = some ⟨g, 0, none⟩ ∧ base ≤ g ∧ g < w.heap.size := by
  rcases (OwS.vals h).2 with ⟨e1, e2⟩ | ⟨g, cap, cur, e1, e2, e3, _⟩
  · injection e1 with _ e3; omega
  · injection e1 with e4 _ _
    refine ⟨g, e4, e2, ?_⟩
    rcases Nat.lt_or_ge g w.heap.size with h1 | h1
    · exact h1
    · rw [Array.getElem?_eq_none h1] at e3; cases e3
theorem OwS.cellAt {w : World} {base e g n c : Nat} {L : List ByteArray} (h : OwR RS 1 w base e (some ⟨g, 0, none⟩) n c L) {k : Nat} (hk : k < n) : w.cell? ⟨g, k, none⟩ = some (.string (L.getD k ByteArray.empty)) ∧ w.frozen? ⟨g, k, none⟩ = false := by
  refine ⟨?_, (OwS.vals h).frozenAt k⟩
  rw [(OwS.vals h).cellAt k (by omega), List.getElem?_map]
  have hk2 : k < L.length := by have := h.len; omega
  simp [List.getD, List.getElem?_eq_getElem hk2]
theorem OwS.stored {w : World} {base e g n c : Nat} {L : List ByteArray} (h : OwR RS 1 w base e (some ⟨g, 0, none⟩) n c L) (k : Nat) (u : ByteArray) : OwR RS 1 (w.setCell ⟨g, k, none⟩ (.string u)) base e (some ⟨g, 0, none⟩) n c (L.set k u) := by
  have h1 := ((OwS.vals h).stored k (.string u)).1
  rw [← List.map_set] at h1
  obtain ⟨A, c2, e1, ho⟩ := OwS.of_vals h1
  injection e1 with e1 e2 e3
  subst e1 e3
  exact ho

set_option maxRecDepth 100000 in
set_option maxHeartbeats 4000000 in
theorem parts_any (s : ByteArray) (w : World) (hs : s.size ≤ 1000) :
    Calls Tryd.prog 69 #[.string s] w fun e w' => ∃ A c, e = .returned (.slice A (PC s).length c) ∧ OwR RS 1 w' w.heap.size 9 A (PC s).length c (PC s) ∧ Below w.heap.size w w' := by
  obtain ⟨i0, hi0, hz0, hz1, hz2⟩ := info_parts str_info
  go_enter Tryd.func69, Tryd.ntmps69
  go_wp2
  go_loopw [3, 4] (fun v3 v4 wr => ∃ (k N : Nat) (A : Option Addr) (c : Nat), k ≤ s.size ∧ v3 = .slice A N c ∧ v4 = .int .i64 k ∧ OwR RS 1 wr w.heap.size 9 A N c (PCt s k) ∧ Below w.heap.size w wr) (fun _ v4 _ => s.size - (intOf v4).toNat)
  case atStart => exact ⟨0, 1, some ⟨w.heap.size, 0, none⟩, 1, Nat.zero_le _, rfl, rfl, by rw [PCt_zero]; exact OwS.lit w _ _ _ (Nat.le_refl _), (Below.refl _ _).alloc (Nat.le_refl _) _⟩
  case round =>
    obtain ⟨k, N, A, c, hk, rfl, rfl, hown, hbw⟩ := hrel
    have hbz := hbw.size
    have hNl := hown.len
    have hpl := PCt_len s k
    have hpp := PCt_pos s k
    have hNb : N ≤ k + 1 := by omega
    by_cases hlt : k < s.size
    · have z0 : (0 : Int) ≤ (k : Int) := by omega
      have z1 : (k : Int) < (s.size : Int) := by omega
      by_cases hc : s[k] = 47
      · have q1 : ((s[k].toNat : Int) == 47) = true := by rw [hc]; rfl
        have HP : Hid (PCt s (k + 1) = PCt s k ++ [ByteArray.empty]) := Lib.hid (PCt_slash hlt hc)
        have HNl := Lib.hid hNl
        clear hc hNl
        generalize PCt s k = L at *
        go_wp2_with (first
          | (at_builtin; go_must (refine wpList_append_r _ rfl (.tmp 16) (.tmp 17) 102 rfl 1 16 w.heap.size 9 i0 (.string ByteArray.empty) RS.stay (by decide) Tryd.underlying102 hi0 hz0 hz1 hz2 rfl (by omega) A N c L rfl (OwS.alloc hown _) _ 1 1 rfl [ByteArray.empty] [.string ByteArray.empty] (Reads.lit (cs := #[.string ByteArray.empty]) rfl) (Fits.one rfl rfl) rfl ?_ ?_ ?_ ?_ ?_; (focus (simp [Value.oneCell'])); (focus (unfold maxLen; omega)); (focus omega); (focus (simp; omega)); intro A3 cc w3 ho3 hg3; (have hb4 := hbw.trans ((Below.alloc (Below.refl w.heap.size _) hbz _).trans hg3.b)); clear hg3)))
        go_roundw
        case rel => exact ⟨k + 1, N + 1, A3, cc, by omega, (by rw [HNl.out]), by go_num, by rw [HP.out]; exact ho3, hb4⟩
        case measure => simp [intOf]; omega
      · have q1 : ((s[k].toNat : Int) == 47) = false := (@u8_eq s[k] 47).trans (decide_eq_false hc)
        have HP : Hid (PCt s (k + 1) = _) := Lib.hid (PCt_byte hlt hc)
        have hsm := PCt_small (s := s) (k := k) ((PCt s k).length - 1)
        rw [← hNl] at HP hsm
        obtain ⟨q, hq⟩ : ∃ q, N = q + 1 := ⟨N - 1, by omega⟩
        have hq1 : N - 1 = q := by omega
        rw [hq1] at HP hsm
        obtain ⟨g, rfl, hg0, hg1⟩ := OwS.block hown (by omega)
        obtain ⟨kc1, kf1⟩ := OwS.cellAt hown (k := q) (by omega)
        have HO := Lib.hid hown
        have hez : (s.extract k (k + 1)).size = 1 := by rw [extract_one hlt]; rfl
        clear hc hpp hpl hNl hown
        generalize (PCt s k).getD q ByteArray.empty = p at *
        have z2 : ¬ (9223372036854775807 : Nat) < p.size + (s.extract k (k + 1)).size := by omega
        have z3 : (k : Int) ≤ (k : Int) + 1 := by omega
        have z4 : (k : Int) + 1 ≤ (s.size : Int) := by omega
        have z5 : ((N : Int) - 1) = (q : Int) := by omega
        have z6 : IntKind.i64.wrap (q : Int) = (q : Int) := IntWalk.i64_in _ (by omega)
        have z7 : (q : Int) < (N : Int) := by omega
        have z8 : (0 : Int) ≤ (q : Int) := by omega
        have z9 : IntKind.i64.wrap ((k : Int) + 1) = (k : Int) + 1 := IntWalk.i64_in _ (by omega)
        have z10 : ((k : Int) + 1).toNat = k + 1 := by omega
        have z11 : (0 : Int) ≤ (k : Int) + 1 := by omega
        clear hq hq1
        have z12 : ¬ (9223372036854775807 : Nat) < p.size + (min (k + 1) s.size - k) := by omega
        have z13 : ¬ (9223372036854775807 : Nat) < p.size + 1 := by omega
        have HPU := Lib.hid HP
        clear HP
        go_wp2_with fail
        go_still_tail 17, (by kernel_rfl)
        go_wp2_with fail
        go_roundw
        case rel => exact ⟨k + 1, N, _, c, by omega, rfl, by go_num, (by rw [HPU.out.out]; have h := OwS.stored HO.out q (p ++ s.extract k (k + 1)); exact ⟨h.len, h.cap, h.max, h.own⟩), (hbw.setCell hg0 _).drew⟩
        case measure => simp [intOf]; omega
    · obtain rfl : k = s.size := by omega
      rw [PCt_all] at *
      have HL := Lib.hid hNl
      clear hNl
      go_wp2
      go_ret
      exact ⟨A, c, by rw [← HL.out]; rfl, by rw [← HL.out]; exact hown, hbw⟩
end Go.Proofs.YtbeijpajodgpeaaDoor
