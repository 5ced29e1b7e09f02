/- The walks of title.prefix and title.Valid. -/
import Derived.Test.YtobgnncdldfkkaaDoorQ1
namespace Go.Proofs.YtobgnncdldfkkaaDoor
open Go.RowKit
set_option linter.unusedSimpArgs false
set_option linter.unusedVariables false

theorem str_beq (a b : ByteArray) : (a.toList == b.toList) = decide (a = b) := by
  by_cases h : a = b
  · subst h; simp
  · have : a.toList ≠ b.toList := fun e => h (by rw [ByteArray.toList_eq, ByteArray.toList_eq] at e; exact ByteArray.ext (Array.toList_inj.1 e))
    simp [h, this]
theorem bB_inj {a b : List UInt8} : bB a = bB b ↔ a = b := ⟨fun h => by have := congrArg (fun s : ByteArray => s.data.toList) h; simpa [bB] using this, fun h => by rw [h]⟩
theorem fold_beq (l m : List UInt8) : ((bB (l.map ch)).toList == (bB (m.map ch)).toList) = decide (l.map ch = m.map ch) := by
  rw [str_beq]
  by_cases h : l.map ch = m.map ch
  · simp [h]
  · rw [decide_eq_false h, decide_eq_false (fun e => h (bB_inj.1 e))]

set_option maxRecDepth 100000 in
set_option maxHeartbeats 4000000 in
theorem prefix_any (s : ByteArray) (m : Int) (w : World) (hs : s.size ≤ 1000) (hm : w.cell? ⟨0, 0, none⟩ = some (.int .i64 m)) :
    Calls Tryd.prog 55 #[.string s] w fun e w' => (∃ (a : Int) (b : ByteArray), e = .returned (.tuple #[.int .i64 a, .string b, .bool (nmd (bl s))])) ∧ Below w.heap.size w w' := by
  have HC := Lib.hid (Tryd.strings_Cut s ⟨#[58]⟩ m w (by omega) hm)
  obtain ⟨cu, hcu⟩ : ∃ cu, cu = Lib.cut s.data.toList [58] := ⟨_, rfl⟩
  have hcu1 := hcu
  unfold Lib.cut at hcu1
  rw [show (ByteArray.data ⟨#[58]⟩).toList = [58] from rfl, ← hcu] at HC
  by_cases hi : 0 ≤ Lib.index s.data.toList [58]
  · rw [if_pos hi] at hcu1
    subst hcu1
    generalize hl : s.data.toList.take (Lib.index s.data.toList [58]).toNat = l at HC
    have hll : l.length ≤ s.size := by rw [← hl, List.length_take, ← bl_len]; exact Nat.min_le_right _ _
    have HN : Hid (nmd (bl s) = isSp (Lib.trimSuffix l [32])) := Lib.hid (by unfold nmd; rw [decide_eq_true hi, hl]; rfl)
    generalize s.data.toList.drop _ = r at HC
    clear hcu hl
    have HT : Hid (∀ W : World, Calls Tryd.prog 61 #[.string ⟨l.toArray⟩, .string ⟨#[32]⟩] W fun e w' => e = .returned (.string (bB (Lib.trimSuffix l [32]))) ∧ w' = W) := Lib.hid fun W => Tryd.strings_TrimSuffix ⟨l.toArray⟩ ⟨#[32]⟩ W (by show l.toArray.size ≤ _; rw [List.size_toArray]; omega)
    have htl : (Lib.trimSuffix l [32]).length ≤ l.length := Lib.trimSuffix_le l [32]
    generalize Lib.trimSuffix l [32] = t at *
    have HF : Hid (∀ W : World, Calls Tryd.prog 60 #[.string (bB t)] W fun e w' => e = .returned (.string (bB (t.map ch))) ∧ Below W.heap.size W w') := Lib.hid fun W => fold_any (bB t) W (by rw [bB_size]; omega)
    have HF2 : Hid (∀ (j : Nat) (W : World), Calls Tryd.prog 60 #[.string (names.getD j ByteArray.empty)] W fun e w' => e = .returned (.string (bB ((bl (names.getD j ByteArray.empty)).map ch))) ∧ Below W.heap.size W w') := Lib.hid fun j W => fold_any _ W (by
      have : ∀ j : Fin 6, (names.getD j.val ByteArray.empty).size ≤ 100 := by decide +kernel
      rcases Nat.lt_or_ge j 6 with h | h
      · have := this ⟨j, h⟩; show _ ≤ _; simp only at this; omega
      · rw [show names.getD j ByteArray.empty = ByteArray.empty by simp [List.getD, List.getElem?_eq_none (show names.length ≤ j from h)]]; decide)
    have HS := Lib.hid fun W => spaces_any W
    clear hm
    go_enter Tryd.func55, Tryd.ntmps55
    go_wp2_with (first
      | (go_at_call 59; refine HC.out.mono ?_; rintro e w1 ⟨rfl, nq, rfl⟩)
      | (go_at_call 61; refine (HT.out _).mono ?_; rintro e w2 ⟨rfl, hwn⟩; obtain rfl := hwn.symm)
      | (go_at_call 60; refine (HF.out _).mono ?_; rintro e w3 ⟨rfl, hb3⟩)
      | (go_at_call 62; refine (HS.out _).mono ?_; rintro e w4 ⟨rfl, hb4⟩))
    have hb04 : Below w.heap.size w w4 := by (refine bel_out ?_; (focus (repeat' first | (with_reducible refine bel_refl ?_) | with_reducible assumption | with_reducible refine bel_drew ?_ | with_reducible refine bel_drewN _ ?_ | with_reducible refine bel_alloc _ ?_ | with_reducible refine bel_set ?_ _ ?_ | (with_reducible apply bel_call; with_reducible assumption) | (with_reducible apply bel_owg; with_reducible assumption; (focus omega)) | with_reducible exact Nat.le_refl _ | omega | (simp; done) | (simp; omega))))
    clear hb3 hb4 HC HT
    go_loopw [23] (fun v wr => ∃ k : Nat, k ≤ 6 ∧ v = .int .i64 k ∧ Below w.heap.size w wr ∧ Hid (∀ j, 1 ≤ j → j < k → t.map ch ≠ (bl (names.getD j ByteArray.empty)).map ch)) (fun v _ => 6 - (intOf v).toNat)
    case atStart => exact ⟨0, Nat.zero_le _, rfl, hb04, Lib.hid fun j h1 h2 => by omega⟩
    case round =>
      obtain ⟨k, hk, rfl, hbw, HJ⟩ := hrel
      clear hb04
      obtain rfl | rfl | rfl | rfl | rfl | rfl | rfl : k = 0 ∨ k = 1 ∨ k = 2 ∨ k = 3 ∨ k = 4 ∨ k = 5 ∨ k = 6 := by omega
      · have ix : ∀ W, (Instr.index 85 (.agg namesV) (.int .i64 0)).run Tryd.prog W = .ok (.string ⟨#[]⟩) W := fun _ => by kernel_rfl
        have ix2 : ∀ W, (Instr.index 85 (.agg namesV) (.int .i64 ((0 : Nat) : Int))).run Tryd.prog W = .ok (.string ⟨#[]⟩) W := fun _ => by kernel_rfl
        go_wp2_with fail
        go_roundw
        case rel => exact ⟨1, by omega, rfl, hbw, Lib.hid fun j h1 h2 => by omega⟩
        case measure => simp [intOf]
      · by_cases hq : t.map ch = (bl (names.getD 1 ByteArray.empty)).map ch
        · have HR : Hid (isSp t = true) := Lib.hid (isSp_hit (j := 1) (by decide) (by decide) hq)
          have hq2 := (fold_beq t (bl (names.getD 1 ByteArray.empty))).trans (decide_eq_true hq)
          have HF3 := Lib.hid fun W => HF2.out 1 W
          have ix : ∀ W, (Instr.index 85 (.agg namesV) (.int .i64 1)).run Tryd.prog W = .ok (.string (names.getD 1 ByteArray.empty)) W := fun _ => by kernel_rfl
          have ix2 : ∀ W, (Instr.index 85 (.agg namesV) (.int .i64 ((1 : Nat) : Int))).run Tryd.prog W = .ok (.string (names.getD 1 ByteArray.empty)) W := fun _ => by kernel_rfl
          clear HF2 HF HS HJ hq
          generalize names.getD 1 ByteArray.empty = nk at *
          generalize bl nk = nm at *
          generalize bB (List.map ch nm) = nmB at *
          generalize bB (List.map ch t) = tB at *
          go_wp2_with (go_at_call 60; refine (HF3.out _).mono ?_; rintro e w5 ⟨rfl, hb5⟩)
          refine bodyPost_ret (v := .tuple #[.int .i64 1, .string ⟨r.toArray⟩, .bool true]) ?_ rfl ⟨⟨_, _, by rw [HN.out, HR.out]⟩, ?_⟩
          · simp [results, Tryd.results55, go_sem]
          · exact below_call hbw hb5
        · have HJ2 : Hid (∀ j, 1 ≤ j → j < 2 → t.map ch ≠ (bl (names.getD j ByteArray.empty)).map ch) := Lib.hid fun j h1 h2 => by
            rcases Nat.lt_or_ge j 1 with h3 | h3
            · exact HJ.out j h1 h3
            · obtain rfl : j = 1 := by omega
              exact hq
          have hq2 := (fold_beq t (bl (names.getD 1 ByteArray.empty))).trans (decide_eq_false hq)
          have HF3 := Lib.hid fun W => HF2.out 1 W
          have ix : ∀ W, (Instr.index 85 (.agg namesV) (.int .i64 1)).run Tryd.prog W = .ok (.string (names.getD 1 ByteArray.empty)) W := fun _ => by kernel_rfl
          have ix2 : ∀ W, (Instr.index 85 (.agg namesV) (.int .i64 ((1 : Nat) : Int))).run Tryd.prog W = .ok (.string (names.getD 1 ByteArray.empty)) W := fun _ => by kernel_rfl
          clear HF2 HF HS HJ hq
          generalize names.getD 1 ByteArray.empty = nk at *
          generalize bl nk = nm at *
          generalize bB (List.map ch nm) = nmB at *
          generalize bB (List.map ch t) = tB at *
          go_wp2_with (go_at_call 60; refine (HF3.out _).mono ?_; rintro e w5 ⟨rfl, hb5⟩)
          go_roundw
          case rel => exact ⟨2, by omega, rfl, below_call hbw hb5, HJ2⟩
          case measure => simp [intOf]
      · by_cases hq : t.map ch = (bl (names.getD 2 ByteArray.empty)).map ch
        · have HR : Hid (isSp t = true) := Lib.hid (isSp_hit (j := 2) (by decide) (by decide) hq)
          have hq2 := (fold_beq t (bl (names.getD 2 ByteArray.empty))).trans (decide_eq_true hq)
          have HF3 := Lib.hid fun W => HF2.out 2 W
          have ix : ∀ W, (Instr.index 85 (.agg namesV) (.int .i64 2)).run Tryd.prog W = .ok (.string (names.getD 2 ByteArray.empty)) W := fun _ => by kernel_rfl
          have ix2 : ∀ W, (Instr.index 85 (.agg namesV) (.int .i64 ((2 : Nat) : Int))).run Tryd.prog W = .ok (.string (names.getD 2 ByteArray.empty)) W := fun _ => by kernel_rfl
          clear HF2 HF HS HJ hq
          generalize names.getD 2 ByteArray.empty = nk at *
          generalize bl nk = nm at *
          generalize bB (List.map ch nm) = nmB at *
          generalize bB (List.map ch t) = tB at *
          go_wp2_with (go_at_call 60; refine (HF3.out _).mono ?_; rintro e w5 ⟨rfl, hb5⟩)
          refine bodyPost_ret (v := .tuple #[.int .i64 2, .string ⟨r.toArray⟩, .bool true]) ?_ rfl ⟨⟨_, _, by rw [HN.out, HR.out]⟩, ?_⟩
          · simp [results, Tryd.results55, go_sem]
          · exact below_call hbw hb5
        · have HJ2 : Hid (∀ j, 1 ≤ j → j < 3 → t.map ch ≠ (bl (names.getD j ByteArray.empty)).map ch) := Lib.hid fun j h1 h2 => by
            rcases Nat.lt_or_ge j 2 with h3 | h3
            · exact HJ.out j h1 h3
            · obtain rfl : j = 2 := by omega
              exact hq
          have hq2 := (fold_beq t (bl (names.getD 2 ByteArray.empty))).trans (decide_eq_false hq)
          have HF3 := Lib.hid fun W => HF2.out 2 W
          have ix : ∀ W, (Instr.index 85 (.agg namesV) (.int .i64 2)).run Tryd.prog W = .ok (.string (names.getD 2 ByteArray.empty)) W := fun _ => by kernel_rfl
          have ix2 : ∀ W, (Instr.index 85 (.agg namesV) (.int .i64 ((2 : Nat) : Int))).run Tryd.prog W = .ok (.string (names.getD 2 ByteArray.empty)) W := fun _ => by kernel_rfl
          clear HF2 HF HS HJ hq
          generalize names.getD 2 ByteArray.empty = nk at *
          generalize bl nk = nm at *
          generalize bB (List.map ch nm) = nmB at *
          generalize bB (List.map ch t) = tB at *
          go_wp2_with (go_at_call 60; refine (HF3.out _).mono ?_; rintro e w5 ⟨rfl, hb5⟩)
          go_roundw
          case rel => exact ⟨3, by omega, rfl, below_call hbw hb5, HJ2⟩
          case measure => simp [intOf]
      · by_cases hq : t.map ch = (bl (names.getD 3 ByteArray.empty)).map ch
        · have HR : Hid (isSp t = true) := Lib.hid (isSp_hit (j := 3) (by decide) (by decide) hq)
          have hq2 := (fold_beq t (bl (names.getD 3 ByteArray.empty))).trans (decide_eq_true hq)
          have HF3 := Lib.hid fun W => HF2.out 3 W
          have ix : ∀ W, (Instr.index 85 (.agg namesV) (.int .i64 3)).run Tryd.prog W = .ok (.string (names.getD 3 ByteArray.empty)) W := fun _ => by kernel_rfl
          have ix2 : ∀ W, (Instr.index 85 (.agg namesV) (.int .i64 ((3 : Nat) : Int))).run Tryd.prog W = .ok (.string (names.getD 3 ByteArray.empty)) W := fun _ => by kernel_rfl
          clear HF2 HF HS HJ hq
          generalize names.getD 3 ByteArray.empty = nk at *
          generalize bl nk = nm at *
          generalize bB (List.map ch nm) = nmB at *
          generalize bB (List.map ch t) = tB at *
          go_wp2_with (go_at_call 60; refine (HF3.out _).mono ?_; rintro e w5 ⟨rfl, hb5⟩)
          refine bodyPost_ret (v := .tuple #[.int .i64 3, .string ⟨r.toArray⟩, .bool true]) ?_ rfl ⟨⟨_, _, by rw [HN.out, HR.out]⟩, ?_⟩
          · simp [results, Tryd.results55, go_sem]
          · exact below_call hbw hb5
        · have HJ2 : Hid (∀ j, 1 ≤ j → j < 4 → t.map ch ≠ (bl (names.getD j ByteArray.empty)).map ch) := Lib.hid fun j h1 h2 => by
            rcases Nat.lt_or_ge j 3 with h3 | h3
            · exact HJ.out j h1 h3
            · obtain rfl : j = 3 := by omega
              exact hq
          have hq2 := (fold_beq t (bl (names.getD 3 ByteArray.empty))).trans (decide_eq_false hq)
          have HF3 := Lib.hid fun W => HF2.out 3 W
          have ix : ∀ W, (Instr.index 85 (.agg namesV) (.int .i64 3)).run Tryd.prog W = .ok (.string (names.getD 3 ByteArray.empty)) W := fun _ => by kernel_rfl
          have ix2 : ∀ W, (Instr.index 85 (.agg namesV) (.int .i64 ((3 : Nat) : Int))).run Tryd.prog W = .ok (.string (names.getD 3 ByteArray.empty)) W := fun _ => by kernel_rfl
          clear HF2 HF HS HJ hq
          generalize names.getD 3 ByteArray.empty = nk at *
          generalize bl nk = nm at *
          generalize bB (List.map ch nm) = nmB at *
          generalize bB (List.map ch t) = tB at *
          go_wp2_with (go_at_call 60; refine (HF3.out _).mono ?_; rintro e w5 ⟨rfl, hb5⟩)
          go_roundw
          case rel => exact ⟨4, by omega, rfl, below_call hbw hb5, HJ2⟩
          case measure => simp [intOf]
      · by_cases hq : t.map ch = (bl (names.getD 4 ByteArray.empty)).map ch
        · have HR : Hid (isSp t = true) := Lib.hid (isSp_hit (j := 4) (by decide) (by decide) hq)
          have hq2 := (fold_beq t (bl (names.getD 4 ByteArray.empty))).trans (decide_eq_true hq)
          have HF3 := Lib.hid fun W => HF2.out 4 W
          have ix : ∀ W, (Instr.index 85 (.agg namesV) (.int .i64 4)).run Tryd.prog W = .ok (.string (names.getD 4 ByteArray.empty)) W := fun _ => by kernel_rfl
          have ix2 : ∀ W, (Instr.index 85 (.agg namesV) (.int .i64 ((4 : Nat) : Int))).run Tryd.prog W = .ok (.string (names.getD 4 ByteArray.empty)) W := fun _ => by kernel_rfl
          clear HF2 HF HS HJ hq
          generalize names.getD 4 ByteArray.empty = nk at *
          generalize bl nk = nm at *
          generalize bB (List.map ch nm) = nmB at *
          generalize bB (List.map ch t) = tB at *
          go_wp2_with (go_at_call 60; refine (HF3.out _).mono ?_; rintro e w5 ⟨rfl, hb5⟩)
          refine bodyPost_ret (v := .tuple #[.int .i64 4, .string ⟨r.toArray⟩, .bool true]) ?_ rfl ⟨⟨_, _, by rw [HN.out, HR.out]⟩, ?_⟩
          · simp [results, Tryd.results55, go_sem]
          · exact below_call hbw hb5
        · have HJ2 : Hid (∀ j, 1 ≤ j → j < 5 → t.map ch ≠ (bl (names.getD j ByteArray.empty)).map ch) := Lib.hid fun j h1 h2 => by
            rcases Nat.lt_or_ge j 4 with h3 | h3
            · exact HJ.out j h1 h3
            · obtain rfl : j = 4 := by omega
              exact hq
          have hq2 := (fold_beq t (bl (names.getD 4 ByteArray.empty))).trans (decide_eq_false hq)
          have HF3 := Lib.hid fun W => HF2.out 4 W
          have ix : ∀ W, (Instr.index 85 (.agg namesV) (.int .i64 4)).run Tryd.prog W = .ok (.string (names.getD 4 ByteArray.empty)) W := fun _ => by kernel_rfl
          have ix2 : ∀ W, (Instr.index 85 (.agg namesV) (.int .i64 ((4 : Nat) : Int))).run Tryd.prog W = .ok (.string (names.getD 4 ByteArray.empty)) W := fun _ => by kernel_rfl
          clear HF2 HF HS HJ hq
          generalize names.getD 4 ByteArray.empty = nk at *
          generalize bl nk = nm at *
          generalize bB (List.map ch nm) = nmB at *
          generalize bB (List.map ch t) = tB at *
          go_wp2_with (go_at_call 60; refine (HF3.out _).mono ?_; rintro e w5 ⟨rfl, hb5⟩)
          go_roundw
          case rel => exact ⟨5, by omega, rfl, below_call hbw hb5, HJ2⟩
          case measure => simp [intOf]
      · by_cases hq : t.map ch = (bl (names.getD 5 ByteArray.empty)).map ch
        · have HR : Hid (isSp t = true) := Lib.hid (isSp_hit (j := 5) (by decide) (by decide) hq)
          have hq2 := (fold_beq t (bl (names.getD 5 ByteArray.empty))).trans (decide_eq_true hq)
          have HF3 := Lib.hid fun W => HF2.out 5 W
          have ix : ∀ W, (Instr.index 85 (.agg namesV) (.int .i64 5)).run Tryd.prog W = .ok (.string (names.getD 5 ByteArray.empty)) W := fun _ => by kernel_rfl
          have ix2 : ∀ W, (Instr.index 85 (.agg namesV) (.int .i64 ((5 : Nat) : Int))).run Tryd.prog W = .ok (.string (names.getD 5 ByteArray.empty)) W := fun _ => by kernel_rfl
          clear HF2 HF HS HJ hq
          generalize names.getD 5 ByteArray.empty = nk at *
          generalize bl nk = nm at *
          generalize bB (List.map ch nm) = nmB at *
          generalize bB (List.map ch t) = tB at *
          go_wp2_with (go_at_call 60; refine (HF3.out _).mono ?_; rintro e w5 ⟨rfl, hb5⟩)
          refine bodyPost_ret (v := .tuple #[.int .i64 5, .string ⟨r.toArray⟩, .bool true]) ?_ rfl ⟨⟨_, _, by rw [HN.out, HR.out]⟩, ?_⟩
          · simp [results, Tryd.results55, go_sem]
          · exact below_call hbw hb5
        · have HJ2 : Hid (∀ j, 1 ≤ j → j < 6 → t.map ch ≠ (bl (names.getD j ByteArray.empty)).map ch) := Lib.hid fun j h1 h2 => by
            rcases Nat.lt_or_ge j 5 with h3 | h3
            · exact HJ.out j h1 h3
            · obtain rfl : j = 5 := by omega
              exact hq
          have hq2 := (fold_beq t (bl (names.getD 5 ByteArray.empty))).trans (decide_eq_false hq)
          have HF3 := Lib.hid fun W => HF2.out 5 W
          have ix : ∀ W, (Instr.index 85 (.agg namesV) (.int .i64 5)).run Tryd.prog W = .ok (.string (names.getD 5 ByteArray.empty)) W := fun _ => by kernel_rfl
          have ix2 : ∀ W, (Instr.index 85 (.agg namesV) (.int .i64 ((5 : Nat) : Int))).run Tryd.prog W = .ok (.string (names.getD 5 ByteArray.empty)) W := fun _ => by kernel_rfl
          clear HF2 HF HS HJ hq
          generalize names.getD 5 ByteArray.empty = nk at *
          generalize bl nk = nm at *
          generalize bB (List.map ch nm) = nmB at *
          generalize bB (List.map ch t) = tB at *
          go_wp2_with (go_at_call 60; refine (HF3.out _).mono ?_; rintro e w5 ⟨rfl, hb5⟩)
          go_roundw
          case rel => exact ⟨6, by omega, rfl, below_call hbw hb5, HJ2⟩
          case measure => simp [intOf]
      · have HR : Hid (isSp t = false) := Lib.hid (isSp_miss HJ.out)
        clear HF HF2 HS
        go_wp2_with fail
        refine bodyPost_ret (v := .tuple #[.int .i64 0, .string ⟨#[]⟩, .bool false]) ?_ rfl ⟨⟨_, _, by rw [HN.out, HR.out]⟩, hbw⟩
        simp [results, Tryd.results55, go_sem]
  · rw [if_neg hi] at hcu1
    subst hcu1
    have HN : Hid (nmd (bl s) = false) := Lib.hid (by unfold nmd; rw [decide_eq_false hi]; rfl)
    clear hcu hi hm
    go_enter Tryd.func55, Tryd.ntmps55
    go_wp2_with (first
      | (go_at_call 59; refine HC.out.mono ?_; rintro e w1 ⟨rfl, nq, rfl⟩))
    refine bodyPost_ret (v := .tuple #[.int .i64 0, .string ⟨#[]⟩, .bool false]) ?_ rfl ⟨⟨_, _, by rw [HN.out]⟩, ?_⟩
    · simp [results, Tryd.results55, go_sem]
    · (refine bel_out ?_; (focus (repeat' first | (with_reducible refine bel_refl ?_) | with_reducible assumption | with_reducible refine bel_drew ?_ | with_reducible refine bel_drewN _ ?_ | with_reducible refine bel_alloc _ ?_ | with_reducible refine bel_set ?_ _ ?_ | (with_reducible apply bel_call; with_reducible assumption) | (with_reducible apply bel_owg; with_reducible assumption; (focus omega)) | with_reducible exact Nat.le_refl _ | omega | (simp; done) | (simp; omega))))
end Go.Proofs.YtobgnncdldfkkaaDoor
