/- The walks of SameStrings (for equal rows) and DiffLines. -/
import Derived.Test.YtakbpdlfgjfbeaaDoorD17
import Derived.Lib.Join
namespace Go.Proofs.YtakbpdlfgjfbeaaDoor
open Go.RowKit
set_option linter.unusedSimpArgs false
set_option linter.unusedVariables false

theorem idx_hit : ∀ (p : List UInt8), 10 ∉ p → Lib.indexByte (p ++ [10]) 10 = (p.length : Int)
  | [], _ => by simp [Lib.indexByte]
  | b :: p, h => by
    have h1 : (b == 10) = false := by rw [beq_eq_false_iff_ne]; exact fun e => h (by simp [e])
    have := idx_hit p (fun hh => h (List.mem_cons_of_mem _ hh))
    rw [List.cons_append, Lib.indexByte, h1, this]
    have h2 : ((p.length : Int) == -1) = false := by rw [beq_eq_false_iff_ne]; omega
    simp [h2]
theorem idx_miss : ∀ (p : List UInt8), 10 ∉ p → Lib.indexByte p 10 = -1
  | [], _ => rfl
  | b :: p, h => by
    have h1 : (b == 10) = false := by rw [beq_eq_false_iff_ne]; exact fun e => h (by simp [e])
    have := idx_miss p (fun hh => h (List.mem_cons_of_mem _ hh))
    rw [Lib.indexByte, h1, this]
    rfl
theorem lnl_shape : ∀ (l : List UInt8) (i : Nat) (x : List UInt8), (lnl l)[i]? = some x → (∃ p, 10 ∉ p ∧ x = p ++ [10]) ∨ (10 ∉ x ∧ i + 1 = (lnl l).length ∧ x ≠ [])
  | [], i, x, h => by simp [lnl] at h
  | c :: t, i, x, h => by
    have ih := lnl_shape t
    rw [lnl] at h ⊢
    by_cases hc : c = 10
    · rw [if_pos hc] at h ⊢
      cases i with
      | zero => simp at h; left; exact ⟨[], by simp, h.symm⟩
      | succ i =>
        simp at h
        rcases ih i x h with h1 | ⟨h1, h2, h3⟩
        · exact Or.inl h1
        · exact Or.inr ⟨h1, by simp; omega, h3⟩
    · rw [if_neg hc] at h ⊢
      cases hl : lnl t with
      | nil =>
        rw [hl] at h
        cases i with
        | zero =>
          simp at h
          right
          rw [← h]
          exact ⟨by simp; exact fun e => hc e.symm, by simp, by simp⟩
        | succ i => simp at h
      | cons l r =>
        rw [hl] at h ih
        cases i with
        | zero =>
          simp at h
          rcases ih 0 l rfl with ⟨p, hp, e⟩ | ⟨h1, h2, h3⟩
          · left; exact ⟨c :: p, by simp; exact ⟨fun e => hc e.symm, hp⟩, by rw [← h, e]; rfl⟩
          · right
            rw [← h]
            exact ⟨by simp; exact ⟨fun e => hc e.symm, h1⟩, by simpa using h2, by simp⟩
        | succ i =>
          simp at h
          rcases ih (i + 1) x (by simpa using h) with h1 | ⟨h1, h2, h3⟩
          · exact Or.inl h1
          · exact Or.inr ⟨h1, by simpa using h2, h3⟩
theorem LN_shape (s : ByteArray) {i : Nat} (hi : i < (LN s).length) : (Lib.indexByte ((LN s).getD i BE).data.toList 10 = (((LN s).getD i BE).size : Int) - 1 ∧ 0 < ((LN s).getD i BE).size) ∨ (Lib.indexByte ((LN s).getD i BE).data.toList 10 = -1 ∧ i + 1 = (LN s).length ∧ 0 < ((LN s).getD i BE).size) := by
  have hl : (LN s).length = (lnl s.data.toList).length := by unfold LN; rw [List.length_map]
  have hi2 : i < (lnl s.data.toList).length := by omega
  have e : (LN s).getD i BE = ⟨((lnl s.data.toList)[i]).toArray⟩ := by
    rw [getD_lt hi]
    simp [LN]
  rw [e]
  rcases lnl_shape s.data.toList i _ (List.getElem?_eq_getElem hi2) with ⟨p, hp, e1⟩ | ⟨h1, h2, h3⟩
  · left
    rw [e1]
    refine ⟨?_, ?_⟩
    · show Lib.indexByte (p ++ [10]).toArray.toList 10 = (((p ++ [10]).toArray.size : Nat) : Int) - 1
      rw [List.toList_toArray, idx_hit p hp]
      simp
    · show 0 < (p ++ [10]).toArray.size
      simp
  · right
    refine ⟨?_, by rw [hl]; exact h2, ?_⟩
    · show Lib.indexByte (lnl s.data.toList)[i].toArray.toList 10 = -1
      rw [List.toList_toArray, idx_miss _ h1]
    · show 0 < (lnl s.data.toList)[i].toArray.size
      rw [List.size_toArray]
      exact List.length_pos_iff.2 h3
theorem flat_len : ∀ (xs : List (List UInt8)) (x : List UInt8), x ∈ xs → x.length ≤ xs.flatten.length
  | [], x, h => by cases h
  | y :: r, x, h => by
    rw [List.flatten_cons, List.length_append]
    rcases List.mem_cons.1 h with h | h
    · rw [h]; omega
    · have := flat_len r x h; omega
theorem LN_size (s : ByteArray) {i : Nat} (hi : i < (LN s).length) : ((LN s).getD i BE).size ≤ s.size := by
  have hl : (LN s).length = (lnl s.data.toList).length := by unfold LN; rw [List.length_map]
  have hi2 : i < (lnl s.data.toList).length := by omega
  have e : (LN s).getD i BE = ⟨((lnl s.data.toList)[i]).toArray⟩ := by
    rw [getD_lt hi]
    simp [LN]
  rw [e]
  have := flat_len (lnl s.data.toList) _ (List.getElem_mem hi2)
  rw [lnl_flatten] at this
  show (lnl s.data.toList)[i].toArray.size ≤ s.data.size
  rw [List.size_toArray]
  rwa [Array.length_toList] at this
theorem join_empty : ∀ (xs : List (List UInt8)), Lib.join xs [] = xs.flatten
  | [] => rfl
  | x :: r => by
    rw [Lib.join_cons]
    simp [Lib.joinTail]
theorem LN_join (s : ByteArray) : Lib.join ((LN s).map (·.data.toList)) ByteArray.empty.data.toList = s.data.toList := by
  rw [show ByteArray.empty.data.toList = [] from rfl, join_empty]
  unfold LN
  rw [List.map_map]
  have : ((fun x : ByteArray => x.data.toList) ∘ fun l : List UInt8 => (⟨l.toArray⟩ : ByteArray)) = id := by funext l; simp
  rw [this, List.map_id, lnl_flatten]

set_option maxRecDepth 100000 in
set_option maxHeartbeats 4000000 in
theorem sameStr_true (A : Option Addr) (n c : Nat) (A2 : Option Addr) (n2 c2 : Nat) (L : List ByteArray) (w : World) (h1 : RdR RS 1 w A n c L) (h2 : RdR RS 1 w A2 n2 c2 L) (hn : n ≤ 100000) :
    Calls Tryd.prog 24 #[.slice A n c, .slice A2 n2 c2] w fun e w' => e = .returned (.bool true) ∧ Below w.heap.size w w' := by
  obtain rfl : n = n2 := h1.len.trans h2.len.symm
  have H1 := Lib.hid h1
  have H2 := Lib.hid h2
  clear h1 h2
  go_enter Tryd.func24, Tryd.ntmps24
  go_wp2
  go_loopw [5] (fun v5 wr => ∃ i : Nat, i ≤ n ∧ v5 = .int .i64 i ∧ Below w.heap.size w wr) (fun v5 _ => n - (intOf v5).toNat)
  case atStart => exact ⟨0, Nat.zero_le _, rfl, Below.refl _ _⟩
  case round =>
    obtain ⟨i, hi, rfl, hbw⟩ := hrel
    by_cases hlt : i < n
    · obtain ⟨bx, ox, rfl, hbx, hcx⟩ := RdS.opened H1.out (by omega)
      obtain ⟨by_, oy, rfl, hby, hcy⟩ := RdS.opened H2.out (by omega)
      have cx := (hbw.cell (p := ⟨bx, ox + i, none⟩) hbx).trans (hcx i hlt)
      have cy := (hbw.cell (p := ⟨by_, oy + i, none⟩) hby).trans (hcy i hlt)
      have p3 : (i : Int) < (n : Int) := by omega
      have p4 : (0 : Int) ≤ (i : Int) := by omega
      clear hcx hcy
      generalize L.getD i ByteArray.empty = xk at *
      have hq2 : (xk.toList != xk.toList) = false := by simp
      go_wp2_with fail
      go_quiet (fail)
      go_wp2_with fail
      go_roundw
      case rel => exact ⟨i + 1, by omega, by go_num, below_drewN hbw nq⟩
      case measure => (simp [intOf]; try omega)
    · have p3 : (n : Int) ≤ (i : Int) := by omega
      go_wp2
      go_ret
      exact ⟨rfl, hbw⟩

set_option maxRecDepth 100000 in
set_option maxHeartbeats 4000000 in
theorem lines_law (s : ByteArray) (m : Int) (w : World) (hm : w.cell? ⟨0, 0, none⟩ = some (.int .i64 m)) (hs9 : s.size ≤ 9223372036854775807) :
    Calls Tryd.prog 6 #[.string s] w fun e w' => e = .returned (.bool true) ∧ Below w.heap.size w w' := by
  have h00 : 0 < w.heap.size := World.block_lt_of_cell? w _ hm
  have HK := Lib.hid (knownOk m)
  have HM := Lib.hid hm
  by_cases h1 : s.size ≤ 500
  · have HLN := Lib.hid (dlines_n s (LN s).length (LN s) m rfl rfl (by omega) w hm)
    have HLR := Lib.hid fun W => rlines_n s (LN s).length (LN s) rfl rfl (by omega) W
    have HSH : Hid (∀ i, i < (LN s).length → (Lib.indexByte ((LN s).getD i BE).data.toList 10 = (((LN s).getD i BE).size : Int) - 1 ∧ 0 < ((LN s).getD i BE).size) ∨ (Lib.indexByte ((LN s).getD i BE).data.toList 10 = -1 ∧ i + 1 = (LN s).length ∧ 0 < ((LN s).getD i BE).size)) := Lib.hid fun i hi => LN_shape s hi
    have HJ := Lib.hid (LN_join s)
    have HSZ : Hid (∀ i, i < (LN s).length → ((LN s).getD i BE).size ≤ 500) := Lib.hid fun i hi => Nat.le_trans (LN_size s hi) h1
    have hln : (LN s).length ≤ 500 := Nat.le_trans (LN_length s) h1
    have d1 : decide ((500 : Int) < (s.size : Int)) = false := decide_eq_false (by omega)
    have d2 : decide (500 < s.size) = false := decide_eq_false (by omega)
    clear hm
    generalize LN s = L at *
    generalize hn : L.length = n at *
    have HN := Lib.hid hn
    clear hn
    go_enter Tryd.func6, Tryd.ntmps6
    go_wp2_with fail
    go_at_call 16
    refine HLN.out.mono ?_
    rintro e w1 ⟨A1, c1, rfl, hx1, -, hb1⟩
    have HX := Lib.hid hx1
    clear hx1 HLN
    go_wp2_with fail
    go_loopw [4] (fun v4 wr => ∃ i : Nat, i ≤ n ∧ v4 = .int .i64 i ∧ Below w1.heap.size w1 wr) (fun v4 _ => n - (intOf v4).toNat)
    case atStart => exact ⟨0, Nat.zero_le _, rfl, Below.refl _ _⟩
    case round =>
      obtain ⟨i, hi, rfl, hbw⟩ := hrel
      by_cases hlt : i < n
      · obtain ⟨bx, ox, rfl, hbx, hcx⟩ := RdS.opened HX.out (by omega)
        have cx := (hbw.cell (p := ⟨bx, ox + i, none⟩) hbx).trans (hcx i hlt)
        have p3 : (i : Int) < (n : Int) := by omega
        have p4 : (0 : Int) ≤ (i : Int) := by omega
        have hsh := HSH.out i hlt
        have hsz := HSZ.out i hlt
        clear hcx
        generalize L.getD i ByteArray.empty = x at *
        have HI := Lib.hid fun W => Tryd.strings_IndexByte x 10 W
        rw [show (10 : Int).toNat.toUInt8 = 10 from rfl] at HI
        generalize Lib.indexByte x.data.toList 10 = k at *
        go_wp2_with fail
        go_at_call 22
        refine (HI.out wr).mono ?_
        rintro e w2 ⟨rfl, hw2⟩
        obtain rfl := hw2.symm
        clear hw2 HI
        have hx9 : 0 < x.size := by rcases hsh with h | h <;> omega
        have hne : x.toList ≠ [] := by
          rw [ByteArray.toList_eq]
          intro e
          have : x.data.size = 0 := by rw [← Array.length_toList, e]; rfl
          have h3 : x.size = x.data.size := rfl
          omega
        have hE1 : x.toList.isEmpty = false := by
          rw [Bool.eq_false_iff]
          exact fun h => hne (List.isEmpty_iff.1 h)
        have hE2 : (x.toList == []) = false := by rw [beq_eq_false_iff_ne]; exact hne
        rcases hsh with ⟨hk, hx0⟩ | ⟨hk, hie, hx0⟩
        · have k1 : (0 : Int) ≤ k := by omega
          have k2 : decide (k < 0) = false := decide_eq_false (by omega)
          have k3 : decide ((0 : Int) ≤ k) = true := decide_eq_true (by omega)
          have k4 : (k != (x.size : Int) - 1) = false := by rw [bne_eq_false_iff_eq]; exact hk
          clear hk hne
          go_wp2_with fail
          go_roundw
          case rel => exact ⟨i + 1, by omega, by go_num, hbw⟩
          case measure => (simp [intOf]; try omega)
        · have k2 : decide (k < 0) = true := decide_eq_true (by omega)
          have k3 : decide ((0 : Int) ≤ k) = false := decide_eq_false (by omega)
          have k5 : decide ((i : Int) < (n : Int) - 1) = false := decide_eq_false (by omega)
          have k6 : k < 0 := by omega
          clear hk hne
          go_wp2_with fail
          go_roundw
          case rel => exact ⟨i + 1, by omega, by go_num, hbw⟩
          case measure => (simp [intOf]; try omega)
      · have p3 : (n : Int) ≤ (i : Int) := by omega
        have hb01 := below_call hb1 hbw
        have hq : (s.toList == s.toList) = true := by simp
        have HJO : Hid (Calls Tryd.prog 23 #[.slice A1 n c1, .string ByteArray.empty] wr fun e w' => e = .returned (.string s) ∧ Below wr.heap.size wr w') := Lib.hid (by
          have hx := HX.out.below RS.stay hbw
          have hcap := hx.cap
          rcases Nat.eq_zero_or_pos n with h0 | h0
          · have hL : L = [] := List.eq_nil_of_length_eq_zero (by rw [HN.out, h0])
            have hs : s = ByteArray.empty := by
              have := HJ.out
              rw [hL] at this
              exact ByteArray.ext (Array.toList_inj.1 this.symm)
            rw [h0, hs]
            exact (Tryd.strings_Join_none A1 c1 ByteArray.empty wr).mono fun e w' ⟨h1, h2⟩ => ⟨h1, by rw [h2]; exact Below.refl _ _⟩
          · obtain ⟨bx, ox, rfl, hbx, hcx⟩ := RdS.opened hx h0
            have hj : (Lib.join (L.map (·.data.toList)) ByteArray.empty.data.toList).length ≤ 140737488355328 := by
              rw [HJ.out, Array.length_toList]
              show s.size ≤ _
              omega
            have hc := Tryd.strings_Join bx ox c1 L ByteArray.empty wr (fun j y hy => by
              have hjl : j < L.length := by
                rcases Nat.lt_or_ge j L.length with h | h
                · exact h
                · rw [List.getElem?_eq_none h] at hy; cases hy
              have := hcx j (by rw [← HN.out]; exact hjl)
              rw [List.getElem?_eq_getElem hjl] at hy
              injection hy with hy
              rw [this, ← hy, ← getD_lt hjl]) hbx (by rw [HN.out]; omega) (by rw [HN.out]; exact hcap) hj
            rw [HN.out, HJ.out] at hc
            exact hc)
        clear hb1
        go_wp2_with fail
        go_at_call 23
        refine HJO.out.mono ?_
        rintro e w3 ⟨rfl, hb3⟩
        have hb03 := below_call hb01 hb3
        have HX3 := Lib.hid ((HX.out.below RS.stay hbw).below RS.stay hb3)
        clear hbw hb3 hb01 HJO
        go_wp2_with fail
        go_at_call 19
        refine (HLR.out w3).mono ?_
        rintro e w4 ⟨A4, c4, rfl, hx4, hb4⟩
        have hb04 := below_call hb03 hb4
        have HSA := Lib.hid (sameStr_true A1 n c1 A4 n c4 L w4 (HX3.out.below RS.stay hb4) hx4 (by omega))
        clear hx4 hb4 hb03
        go_wp2_with fail
        go_at_call 24
        refine HSA.out.mono ?_
        rintro e w5 ⟨rfl, hb5⟩
        have hb05 := below_call hb04 hb5
        clear hb5 hb04 HSA
        go_wp2_with fail
        go_at_call 11
        refine (HK.out w5 ((hb05.cell h00).trans HM.out)).mono ?_
        rintro e w6 ⟨rfl, hb6⟩
        go_wp2_with fail
        go_ret
        exact ⟨rfl, below_call hb05 hb6⟩
  · have d1 : decide ((500 : Int) < (s.size : Int)) = true := decide_eq_true (by omega)
    have d2 : decide (500 < s.size) = true := decide_eq_true (by omega)
    clear hm
    go_enter Tryd.func6, Tryd.ntmps6
    go_wp2_with fail
    go_at_call 11
    refine (HK.out w HM.out).mono ?_
    rintro e w8 ⟨rfl, hb8⟩
    go_wp2_with fail
    go_ret
    exact ⟨rfl, hb8⟩
end Go.Proofs.YtakbpdlfgjfbeaaDoor
