/- The walk of DiffShape. -/
import Derived.Test.YtakbpdlfgjfbeaaDoorD17
namespace Go.Proofs.YtakbpdlfgjfbeaaDoor
open Go.RowKit
set_option linter.unusedSimpArgs false
set_option linter.unusedVariables false

theorem EI_get {l : List (Nat × List ByteArray)} {i : Nat} {e : Ed} (h : (EI l)[i]? = some e) : ∃ hi : i < l.length, e = ((l[i].1 : Int), l[i].2) := by
  unfold EI at h
  rw [List.getElem?_map] at h
  rcases Nat.lt_or_ge i l.length with hi | hi
  · rw [List.getElem?_eq_getElem hi] at h
    injection h with h
    exact ⟨hi, h.symm⟩
  · rw [List.getElem?_eq_none hi] at h; cases h
theorem good_ne {l : List (Nat × List ByteArray)} (h : Good l) {i : Nat} {e : Ed} (he : (EI l)[i]? = some e) : 0 < e.2.length := by
  obtain ⟨hi, rfl⟩ := EI_get he
  exact List.length_pos_iff.2 (h.1 _ (List.getElem_mem hi))
theorem good_next {l : List (Nat × List ByteArray)} (h : Good l) {i j : Nat} {e f : Ed} (hj : j = i + 1) (he : (EI l)[i]? = some e) (hf : (EI l)[j]? = some f) : e.1 ≠ f.1 ∧ ¬ (e.1 = 3 ∧ f.1 = 2) := by
  subst hj
  obtain ⟨hi, rfl⟩ := EI_get he
  obtain ⟨hj, rfl⟩ := EI_get hf
  obtain ⟨h1, h2⟩ := h.2 i hj
  refine ⟨fun e => ?_, fun ⟨a, b⟩ => ?_⟩
  · have e' : ((l[i].1 : Nat) : Int) = ((l[i + 1].1 : Nat) : Int) := e
    exact h1 (by omega)
  · have a' : ((l[i].1 : Nat) : Int) = 3 := a
    have b' : ((l[i + 1].1 : Nat) : Int) = 2 := b
    exact h2 ⟨by omega, by omega⟩

set_option maxRecDepth 100000 in
set_option maxHeartbeats 4000000 in
theorem shape_any (A : Option Addr) (n c : Nat) (zs : List Int) (m : Int) (w : World) (hr : RdZ w A n c zs) (hm : w.cell? ⟨0, 0, none⟩ = some (.int .i64 m)) :
    Calls Tryd.prog 4 #[.slice A n c] w fun e w' => e = .returned (.bool true) ∧ Below w.heap.size w w' := by
  have h00 : 0 < w.heap.size := World.block_lt_of_cell? w _ hm
  have HK := Lib.hid (knownOk m)
  have HM := Lib.hid hm
  have HP := Lib.hid (pair_any A n c zs w hr)
  have HE : Hid (∀ x y : ByteArray, x.size ≤ 150 → y.size ≤ 150 → DiffOk m x y ∧ (EI (edits (LN x) (LN y))).length ≤ 7000) := Lib.hid fun x y hx hy => ⟨diffOk m x y (by omega) (by omega), EIe_len x y (by omega) (by omega)⟩
  clear hm hr
  go_enter Tryd.func4, Tryd.ntmps4
  go_wp2_with fail
  go_at_call 12
  refine HP.out.mono ?_
  rintro e w1 ⟨x, y, rfl, hx, hy, hb1⟩
  have HE1 := Lib.hid (HE.out x y hx hy)
  have HE2 := Lib.hid (HE.out x x hx hx)
  have HSX := Lib.hid hx
  have HG := Lib.hid (edits_good (LN x) (LN y))
  clear HE HP hx hy
  go_wp2_with fail
  go_at_call 14
  refine (HE1.out.1 w1 ((hb1.cell h00).trans HM.out)).mono ?_
  rintro e w2 ⟨A2, n2, c2, rfl, hE2, hb2⟩
  have hl2 := hE2.len
  have hn2 : n2 ≤ 100000 := by rw [hl2]; have := HE1.out.2; omega
  have hb02 := below_call hb1 hb2
  have HR := Lib.hid hE2
  clear hl2 hb1 hb2 hE2
  generalize edits (LN x) (LN y) = E at *
  go_wp2_with fail
  go_loopw [6] (fun v6 wr => ∃ i : Nat, i ≤ n2 ∧ v6 = .int .i64 i ∧ Below w2.heap.size w2 wr) (fun v6 _ => n2 - (intOf v6).toNat)
  case atStart => exact ⟨0, Nat.zero_le _, rfl, Below.refl _ _⟩
  case round =>
    obtain ⟨i, hi, rfl, hbw⟩ := hrel
    by_cases hlt : i < n2
    · obtain ⟨b1, o1, k1, L1, B1, m1, d1, hA, hb1, hE1, hk1, hs1, hr1⟩ := RdE.at_ HR.out hlt
      have c1 := (hbw.cell (p := ⟨b1, o1 + i * 2, none⟩) hb1).trans hk1
      have c3 := (hbw.cell (p := ⟨b1, o1 + i * 2 + 1, none⟩) hb1).trans hs1
      have hm1 : 0 < m1 := by rw [hr1.len]; exact good_ne HG.out hE1
      have hmm : m1 ≤ maxLen := Nat.le_trans hr1.cap hr1.max
      have dm : ((m1 : Int) == 0) = false := by rw [beq_eq_false_iff_ne]; omega
      have p1 : (i : Int) < (n2 : Int) := by omega
      have p2 : (0 : Int) ≤ (i : Int) := by omega
      by_cases h0 : i = 0
      · subst h0
        subst hA
        have d0 : decide ((0 : Int) < ((0 : Nat) : Int)) = false := by decide
        clear hE1 hk1 hs1 hr1 hm1 hmm
        go_wp2_with fail
        go_quiet (fail)
        go_wp2_with fail
        go_roundw
        case rel => exact ⟨1, by omega, rfl, below_drewN hbw nq⟩
        case measure => (simp [intOf]; try omega)
      · obtain ⟨j, rfl⟩ : ∃ j, i = j + 1 := ⟨i - 1, by omega⟩
        obtain ⟨b2, o2, k2, L2, B2, m2, d2, hA2, hb2, hE2, hk2, hs2, hr2⟩ := RdE.at_ HR.out (show j < n2 by omega)
        rw [hA] at hA2
        injection hA2 with hA2
        injection hA2 with e1 e2
        subst e1 e2
        have c2' := (hbw.cell (p := ⟨b1, o1 + j * 2, none⟩) hb1).trans hk2
        obtain ⟨g1, g2⟩ := good_next HG.out rfl hE2 hE1
        have dk : (k2 == k1) = false := by simpa using g1
        clear hE1 hk1 hs1 hr1 hm1 hmm hE2 hk2 hs2 hr2
        subst hA
        have d0 : decide ((0 : Int) < ((j + 1 : Nat) : Int)) = true := decide_eq_true (by omega)
        have d0' : decide ((0 : Int) < (j : Int) + 1) = true := decide_eq_true (by omega)
        have p3 : (0 : Int) ≤ (j : Int) := by omega
        have p4 : (j : Int) < (n2 : Int) := by omega
        have q1 : IntKind.i64.wrap (((j + 1 : Nat) : Int) - 1) = (j : Int) := (IntWalk.i64_in _ (by omega)).trans (by omega)
        have q2 : IntKind.i64.wrap ((j : Int) + 1 - 1) = (j : Int) := (IntWalk.i64_in _ (by omega)).trans (by omega)
        by_cases h3 : k2 = 3
        · have dk3 : (k2 == 3) = true := by rw [h3]; rfl
          have dk2 : (k1 == 2) = false := by rw [beq_eq_false_iff_ne]; exact fun e => g2 ⟨h3, e⟩
          clear h3 g1 g2
          go_wp2_with fail
          go_quiet (fail)
          go_wp2_with fail
          go_roundw
          case rel => exact ⟨j + 2, by omega, by go_num, below_drewN hbw nq⟩
          case measure => (simp [intOf]; try omega)
        · have dk3 : (k2 == 3) = false := by simpa using h3
          clear h3 g1 g2
          go_wp2_with fail
          go_quiet (fail)
          go_wp2_with fail
          go_roundw
          case rel => exact ⟨j + 2, by omega, by go_num, below_drewN hbw nq⟩
          case measure => (simp [intOf]; try omega)
    · have hi2 : (n2 : Int) ≤ (i : Int) := by omega
      have hbw3 := below_call hb02 hbw
      have c00 := (hbw3.cell h00).trans HM.out
      have HD2 : Hid (DiffOk m x x) := Lib.hid HE2.out.1
      have HLX : Hid (edits (LN x) (LN x) = put1 1 (LN x)) := Lib.hid (edits_self _)
      clear hbw
      go_wp2_with fail
      go_at_call 14
      refine (HD2.out wr c00).mono ?_
      rintro e w5 ⟨A5, n5, c5, rfl, hE5, hb5⟩
      rw [HLX.out] at hE5
      have hb05 := below_call hbw3 hb5
      have HN5 := Lib.hid hE5.len
      have hn5 : n5 ≤ 1 := by rw [hE5.len, EI_length]; exact put1_length _ _
      clear hE5 hb5 c00
      go_wp2_with fail
      go_at_call 16
      refine (dlines_n x (LN x).length (LN x) m rfl rfl (by have := HSX.out; omega) w5 ((hb05.cell h00).trans HM.out)).mono ?_
      rintro e w6 ⟨A6, c6, rfl, hx6, -, hb6⟩
      have hb06 := below_call hb05 hb6
      have hmin : min (1 : Int) ((LN x).length : Int) = (n5 : Int) := by
        have h1 := HN5.out
        rw [EI_length] at h1
        unfold put1 at h1
        split at h1
        · rename_i h2; rw [h2]; simp at h1; rw [h1]; rfl
        · rename_i h2
          have := List.length_pos_iff.2 h2
          simp at h1; omega
      clear hx6 hb6 hbw3 hb05
      generalize (LN x).length = nx at *
      go_wp2_with fail
      go_at_call 14
      refine (HD2.out w6 ((hb06.cell h00).trans HM.out)).mono ?_
      rintro e w7 ⟨A7, n7, c7, rfl, hE7, hb7⟩
      rw [HLX.out] at hE7
      have hb07 := below_call hb06 hb7
      have hn7 : n7 ≤ 1 := by rw [hE7.len, EI_length]; exact put1_length _ _
      have HC := Lib.hid (cost_any A7 n7 c7 _ w7 hE7 (by omega) (by
        intro e he
        unfold EI put1 at he
        split at he
        · simp at he
        · simp at he
          rw [he]
          have := LN_length x
          have := HSX.out
          show (LN x).length ≤ 100000
          omega))
      rw [costL_EI, cost_put, if_neg (by omega)] at HC
      clear hE7 hb7 hb06
      go_wp2_with fail
      go_at_call 17
      refine HC.out.mono ?_
      rintro e w8 ⟨rfl, hb8⟩
      have hb08 := below_call hb07 hb8
      clear hb8 hb07 HC
      go_wp2_with fail
      go_at_call 11
      refine (HK.out w8 ((hb08.cell h00).trans HM.out)).mono ?_
      rintro e w9 ⟨rfl, hb9⟩
      go_wp2_with fail
      go_ret
      exact ⟨rfl, below_call hb08 hb9⟩
end Go.Proofs.YtakbpdlfgjfbeaaDoor
