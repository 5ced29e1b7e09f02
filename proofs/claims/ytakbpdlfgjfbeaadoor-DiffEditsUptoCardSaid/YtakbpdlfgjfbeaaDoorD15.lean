/- Same (for equal edits), both Costs. -/
import Derived.Test.YtakbpdlfgjfbeaaDoorSE
import Derived.Test.YtakbpdlfgjfbeaaDoorTab
import Derived.Test.YtakbpdlfgjfbeaaDoorD1
namespace Go.Proofs.YtakbpdlfgjfbeaaDoor
open Go.RowKit
set_option linter.unusedSimpArgs false
set_option linter.unusedVariables false

theorem RdE.at_ {w : World} {A : Option Addr} {n c : Nat} {L : List Ed} (h : RdR RE 2 w A n c L) {i : Nat} (hi : i < n) :
    ∃ b off k Ls A' n' c', A = some ⟨b, off, none⟩ ∧ b < w.heap.size ∧ L[i]? = some (k, Ls) ∧ w.cell? ⟨b, off + i * 2, none⟩ = some (.int .i64 k) ∧ w.cell? ⟨b, off + i * 2 + 1, none⟩ = some (.slice A' n' c') ∧ RdR RS 1 w A' n' c' Ls := by
  obtain ⟨b, off, e, hb, hc⟩ := RdE.opened h (by omega)
  have hl := h.len
  obtain ⟨A', n', c', h1, h2, h3⟩ := hc i L[i] (List.getElem?_eq_getElem (by omega))
  exact ⟨b, off, L[i].1, L[i].2, A', n', c', e, hb, List.getElem?_eq_getElem (by omega), h1, by rw [Nat.add_assoc]; exact h2, h3⟩

set_option maxRecDepth 100000 in
set_option maxHeartbeats 4000000 in
theorem same_true (A : Option Addr) (n c : Nat) (A2 : Option Addr) (n2 c2 : Nat) (E : List Ed) (w : World) (h1 : RdR RE 2 w A n c E) (h2 : RdR RE 2 w A2 n2 c2 E) (hn : n ≤ 100000) :
    Calls Tryd.prog 13 #[.slice A n c, .slice A2 n2 c2] w fun e w' => e = .returned (.bool true) ∧ Below w.heap.size w w' := by
  obtain rfl : n = n2 := h1.len.trans h2.len.symm
  have H1 := Lib.hid h1
  have H2 := Lib.hid h2
  clear h1 h2
  go_enter Tryd.func13, Tryd.ntmps13
  go_wp2
  go_loopw [5] (fun v5 wr => ∃ i : Nat, i ≤ n ∧ v5 = .int .i64 i ∧ Below w.heap.size w wr) (fun v5 _ => n - (intOf v5).toNat)
  case atStart => exact ⟨0, Nat.zero_le _, rfl, Below.refl _ _⟩
  case round =>
    obtain ⟨i, hi, rfl, hbw⟩ := hrel
    by_cases hlt : i < n
    · obtain ⟨b1, o1, k1, L1, B1, m1, d1, rfl, hb1, hE1, hk1, hs1, hr1⟩ := RdE.at_ H1.out hlt
      obtain ⟨b2, o2, k2, L2, B2, m2, d2, rfl, hb2, hE2, hk2, hs2, hr2⟩ := RdE.at_ H2.out hlt
      rw [hE1] at hE2
      injection hE2 with hE2
      injection hE2 with e1 e2
      subst e1 e2
      obtain rfl : m1 = m2 := hr1.len.trans hr2.len.symm
      have c1 := (hbw.cell (p := ⟨b1, o1 + i * 2, none⟩) hb1).trans hk1
      have c2' := (hbw.cell (p := ⟨b1, o1 + i * 2 + 1, none⟩) hb1).trans hs1
      have c3 := (hbw.cell (p := ⟨b2, o2 + i * 2, none⟩) hb2).trans hk2
      have c4 := (hbw.cell (p := ⟨b2, o2 + i * 2 + 1, none⟩) hb2).trans hs2
      have hm1 : m1 ≤ maxLen := Nat.le_trans hr1.cap hr1.max
      unfold maxLen at hm1
      have HS1 := Lib.hid hs1
      have HS2 := Lib.hid hs2
      have R1 := Lib.hid hr1
      have R2 := Lib.hid hr2
      have p1 : (i : Int) < (n : Int) := by omega
      have p2 : (0 : Int) ≤ (i : Int) := by omega
      clear hE1 hk1 hs1 hk2 hs2 hr1 hr2
      go_wp2_with fail
      go_quiet (fail)
      go_wp2_with fail
      have hb0 := below_drewN hbw nq
      clear c1 c2' c3 c4
      generalize wr.drewN nq = w3 at *
      go_loopw [6] (fun v6 wr => ∃ j : Nat, j ≤ m1 ∧ v6 = .int .i64 j ∧ Below w.heap.size w wr) (fun v6 _ => m1 - (intOf v6).toNat)
      case atStart => exact ⟨0, Nat.zero_le _, rfl, hb0⟩
      case round =>
        obtain ⟨j, hj, rfl, hbz⟩ := hrel
        have c2' := (hbz.cell (p := ⟨b1, o1 + i * 2 + 1, none⟩) hb1).trans HS1.out
        have c4 := (hbz.cell (p := ⟨b2, o2 + i * 2 + 1, none⟩) hb2).trans HS2.out
        by_cases hlt2 : j < m1
        · obtain ⟨bx, ox, rfl, hbx, hcx⟩ := RdS.opened R1.out (by omega)
          obtain ⟨by_, oy, rfl, hby, hcy⟩ := RdS.opened R2.out (by omega)
          have cx := (hbz.cell (p := ⟨bx, ox + j, none⟩) hbx).trans (hcx j hlt2)
          have cy := (hbz.cell (p := ⟨by_, oy + j, none⟩) hby).trans (hcy j hlt2)
          have p3 : (j : Int) < (m1 : Int) := by omega
          have p4 : (0 : Int) ≤ (j : Int) := by omega
          clear hcx hcy
          generalize L1.getD j ByteArray.empty = xk at *
          have hq : (xk.toList == xk.toList) = true := by simp
          have hq2 : (xk.toList != xk.toList) = false := by simp
          go_wp2_with fail
          go_quiet (fail)
          go_wp2_with fail
          go_roundw
          case rel => exact ⟨j + 1, by omega, by go_num, below_drewN hbz nq⟩
          case measure => (simp [intOf]; try omega)
        · have p3 : (m1 : Int) ≤ (j : Int) := by omega
          go_wp2_with fail
          go_roundw
          case rel => exact ⟨i + 1, by omega, by go_num, hbz⟩
          case measure => (simp [intOf]; try omega)
    · have hi2 : (n : Int) ≤ (i : Int) := by omega
      go_wp2
      go_ret
      exact ⟨rfl, hbw⟩

/-- the number of the lines of the first k edits that are deleted or inserted -/
def costE (E : List Ed) (k : Nat) : Nat := ((E.take k).map fun e => if e.1 = 2 ∨ e.1 = 3 then e.2.length else 0).sum
theorem costE_succ {E : List Ed} {k : Nat} {e : Ed} (h : E[k]? = some e) : costE E (k + 1) = costE E k + if e.1 = 2 ∨ e.1 = 3 then e.2.length else 0 := by
  have hk : k < E.length := by
    rcases Nat.lt_or_ge k E.length with h1 | h1
    · exact h1
    · rw [List.getElem?_eq_none h1] at h; cases h
  rw [List.getElem?_eq_getElem hk] at h
  injection h with h
  unfold costE
  rw [List.take_succ_eq_append_getElem hk, List.map_append, List.sum_append, h]
  simp
def costL (E : List Ed) : Nat := costE E E.length
theorem costL_EI (l : List (Nat × List ByteArray)) : costL (EI l) = cost l := by
  unfold costL costE cost
  rw [List.take_length]
  unfold EI
  rw [List.map_map]
  congr 1
  apply List.map_congr_left
  intro e _
  simp only [Function.comp]
  have : ((e.1 : Int) = 2 ∨ (e.1 : Int) = 3) ↔ (e.1 = 2 ∨ e.1 = 3) := by omega
  simp only [this]
/-- each edit has at most 4611686018427387904 / (number of edits + 1) lines -/
def Small (E : List Ed) (m : Nat) : Prop := ∀ e ∈ E, e.2.length ≤ m
theorem costE_le {E : List Ed} {m : Nat} (h : Small E m) : ∀ k, costE E k ≤ k * m := by
  intro k
  induction k with
  | zero => simp [costE]
  | succ k ih =>
    rcases Nat.lt_or_ge k E.length with h1 | h1
    · rw [costE_succ (List.getElem?_eq_getElem h1), Nat.add_mul, Nat.one_mul]
      have := h _ (List.getElem_mem h1)
      split <;> omega
    · have : costE E (k + 1) = costE E k := by unfold costE; rw [List.take_of_length_le (by omega), List.take_of_length_le h1]
      rw [this, Nat.add_mul]; omega

set_option maxRecDepth 100000 in
set_option maxHeartbeats 4000000 in
theorem cost_any (A : Option Addr) (n c : Nat) (E : List Ed) (w : World) (h1 : RdR RE 2 w A n c E) (hn : n ≤ 100000) (hs : Small E 100000) :
    Calls Tryd.prog 17 #[.slice A n c] w fun e w' => e = .returned (.int .i64 (costL E : Int)) ∧ Below w.heap.size w w' := by
  have H1 := Lib.hid h1
  have hle := costE_le hs
  have HL : Hid (costL E = costE E n) := Lib.hid (by unfold costL; rw [h1.len])
  rw [HL.out]
  clear h1
  go_enter Tryd.func17, Tryd.ntmps17
  go_wp2
  go_loopw [3, 8] (fun v3 v8 wr => ∃ i : Nat, i ≤ n ∧ v8 = .int .i64 i ∧ v3 = .int .i64 (costE E i : Int) ∧ Below w.heap.size w wr) (fun _ v8 _ => n - (intOf v8).toNat)
  case atStart => exact ⟨0, Nat.zero_le _, rfl, rfl, Below.refl _ _⟩
  case round =>
    obtain ⟨i, hi, rfl, rfl, hbw⟩ := hrel
    have hc := hle i
    have hc2 := hle (i + 1)
    by_cases hlt : i < n
    · obtain ⟨b1, o1, k1, L1, B1, m1, d1, rfl, hb1, hE1, hk1, hs1, hr1⟩ := RdE.at_ H1.out hlt
      have c1 := (hbw.cell (p := ⟨b1, o1 + i * 2, none⟩) hb1).trans hk1
      have c2' := (hbw.cell (p := ⟨b1, o1 + i * 2 + 1, none⟩) hb1).trans hs1
      have HC := Lib.hid (costE_succ hE1)
      have hm1 : m1 ≤ 100000 := by
        rw [hr1.len]
        exact hs _ (List.mem_of_getElem? hE1)
      have hml := Lib.hid hr1.len
      have p1 : (i : Int) < (n : Int) := by omega
      have p2 : (0 : Int) ≤ (i : Int) := by omega
      have hi3 : i * 100000 ≤ 100000 * 100000 := Nat.mul_le_mul_right _ (by omega)
      have p3 : (costE E i : Int) ≤ 10000000000 := by omega
      have hsz := hbw.size
      clear hE1 hk1 hs1 hr1 hc hc2 hle
      generalize costE E i = q at *
      by_cases hk2 : k1 = 2
      · have dk : (k1 == 2) = true := by rw [hk2]; rfl
        have HC2 : Hid (costE E (i + 1) = q + m1) := Lib.hid (by rw [HC.out, hml.out]; simp [hk2])
        clear hk2
        go_wp2_with fail
        go_roundw
        case rel => exact ⟨i + 1, by omega, by go_num, by rw [HC2.out]; go_num, hbw.alloc hsz _⟩
        case measure => (simp [intOf]; try omega)
      · have dk : (k1 == 2) = false := by simpa using hk2
        by_cases hk3 : k1 = 3
        · have dk3 : (k1 == 3) = true := by rw [hk3]; rfl
          have HC2 : Hid (costE E (i + 1) = q + m1) := Lib.hid (by rw [HC.out, hml.out]; simp [hk3])
          clear hk2 hk3
          go_wp2_with fail
          go_roundw
          case rel => exact ⟨i + 1, by omega, by go_num, by rw [HC2.out]; go_num, hbw.alloc hsz _⟩
          case measure => (simp [intOf]; try omega)
        · have dk3 : (k1 == 3) = false := by simpa using hk3
          have HC2 : Hid (costE E (i + 1) = q) := Lib.hid (by rw [HC.out]; simp [hk2, hk3])
          clear hk2 hk3
          go_wp2_with fail
          go_roundw
          case rel => exact ⟨i + 1, by omega, by go_num, by rw [HC2.out], hbw.alloc hsz _⟩
          case measure => (simp [intOf]; try omega)
    · obtain rfl : i = n := by omega
      have hi2 : (i : Int) ≤ (i : Int) := by omega
      go_wp2
      go_ret
      exact ⟨rfl, hbw⟩
set_option maxRecDepth 100000 in
set_option maxHeartbeats 4000000 in
theorem rcost_any (A : Option Addr) (n c : Nat) (E : List Ed) (w : World) (h1 : RdR RE 2 w A n c E) (hn : n ≤ 100000) (hs : Small E 100000) :
    Calls Tryd.prog 21 #[.slice A n c] w fun e w' => e = .returned (.int .i64 (costL E : Int)) ∧ Below w.heap.size w w' := by
  have H1 := Lib.hid h1
  have hle := costE_le hs
  have HL : Hid (costL E = costE E n) := Lib.hid (by unfold costL; rw [h1.len])
  rw [HL.out]
  clear h1
  go_enter Tryd.func21, Tryd.ntmps21
  go_wp2
  go_loopw [3, 4] (fun v3 v4 wr => ∃ i : Nat, i ≤ n ∧ v4 = .int .i64 i ∧ v3 = .int .i64 (costE E i : Int) ∧ Below w.heap.size w wr) (fun _ v4 _ => n - (intOf v4).toNat)
  case atStart => exact ⟨0, Nat.zero_le _, rfl, rfl, Below.refl _ _⟩
  case round =>
    obtain ⟨i, hi, rfl, rfl, hbw⟩ := hrel
    have hc := hle i
    have hc2 := hle (i + 1)
    by_cases hlt : i < n
    · obtain ⟨b1, o1, k1, L1, B1, m1, d1, rfl, hb1, hE1, hk1, hs1, hr1⟩ := RdE.at_ H1.out hlt
      have c1 := (hbw.cell (p := ⟨b1, o1 + i * 2, none⟩) hb1).trans hk1
      have c2' := (hbw.cell (p := ⟨b1, o1 + i * 2 + 1, none⟩) hb1).trans hs1
      have HC := Lib.hid (costE_succ hE1)
      have hm1 : m1 ≤ 100000 := by
        rw [hr1.len]
        exact hs _ (List.mem_of_getElem? hE1)
      have hml := Lib.hid hr1.len
      have p1 : (i : Int) < (n : Int) := by omega
      have p2 : (0 : Int) ≤ (i : Int) := by omega
      have hi3 : i * 100000 ≤ 100000 * 100000 := Nat.mul_le_mul_right _ (by omega)
      have p3 : (costE E i : Int) ≤ 10000000000 := by omega
      have hsz := hbw.size
      clear hE1 hk1 hs1 hr1 hc hc2 hle
      generalize costE E i = q at *
      by_cases hk2 : k1 = 2
      · have dk : (k1 == 2) = true := by rw [hk2]; rfl
        have HC2 : Hid (costE E (i + 1) = q + m1) := Lib.hid (by rw [HC.out, hml.out]; simp [hk2])
        clear hk2
        go_wp2_with fail
        go_roundw
        case rel => exact ⟨i + 1, by omega, by go_num, by rw [HC2.out]; go_num, hbw⟩
        case measure => (simp [intOf]; try omega)
      · have dk : (k1 == 2) = false := by simpa using hk2
        by_cases hk3 : k1 = 3
        · have dk3 : (k1 == 3) = true := by rw [hk3]; rfl
          have HC2 : Hid (costE E (i + 1) = q + m1) := Lib.hid (by rw [HC.out, hml.out]; simp [hk3])
          clear hk2 hk3
          go_wp2_with fail
          go_roundw
          case rel => exact ⟨i + 1, by omega, by go_num, by rw [HC2.out]; go_num, hbw⟩
          case measure => (simp [intOf]; try omega)
        · have dk3 : (k1 == 3) = false := by simpa using hk3
          have HC2 : Hid (costE E (i + 1) = q) := Lib.hid (by rw [HC.out]; simp [hk2, hk3])
          clear hk2 hk3
          go_wp2_with fail
          go_roundw
          case rel => exact ⟨i + 1, by omega, by go_num, by rw [HC2.out], hbw⟩
          case measure => (simp [intOf]; try omega)
    · obtain rfl : i = n := by omega
      have hi2 : (i : Int) ≤ (i : Int) := by omega
      go_wp2
      go_ret
      exact ⟨rfl, hbw⟩
end Go.Proofs.YtakbpdlfgjfbeaaDoor
