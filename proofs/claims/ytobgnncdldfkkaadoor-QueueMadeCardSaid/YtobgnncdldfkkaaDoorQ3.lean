/- The walk of title.Valid. -/
import Derived.Test.YtobgnncdldfkkaaDoorQ2
namespace Go.Proofs.YtobgnncdldfkkaaDoor
open Go.RowKit
set_option linter.unusedSimpArgs false
set_option linter.unusedVariables false

theorem split_any (s : ByteArray) (m : Int) (w : World) (hs : s.size < 4294967281) (hm : w.cell? ⟨0, 0, none⟩ = some (.int .i64 m)) :
    Calls Tryd.prog 54 #[.string s, .string sl] w fun e w' => e = .returned (.slice (some ⟨w.heap.size, 0, none⟩) (PC s).length (PC s).length) ∧ w' = w.alloc (.cells ((PC s).map Value.string).toArray 9) := by
  have hle := Lib.countB_le sl (by decide) s.size s (Nat.le_refl _)
  have hlen := Lib.splitB_all sl (by decide) 0 _ s rfl
  have c := Tryd.strings_Split s sl m w hs hm (by decide)
  rw [← hlen, split_PC] at c
  exact c
theorem PC_cell (w : World) (L : List ByteArray) (t k : Nat) (hk : k < L.length) : (w.alloc (.cells (L.map Value.string).toArray t)).cell? ⟨w.heap.size, k, none⟩ = some (.string (L.getD k ByteArray.empty)) := by
  rw [cell_of_row _ w.heap.size k _ _ _ (heap_new rfl)]
  simp [List.getElem?_map, List.getD, List.getElem?_eq_getElem hk]
theorem badP_eq {p : ByteArray} (h : 0 < p.size) : badP p = (p[0] == 32 || p[p.size - 1] == 32) := by unfold badP; rw [dif_pos h]
theorem any_bad {L : List ByteArray} {k : Nat} (hk : k < L.length) (h : badP (L.getD k ByteArray.empty) = true) : L.any badP = true := by
  rw [List.any_eq_true]
  have e : L.getD k ByteArray.empty = L[k] := by simp [List.getD, List.getElem?_eq_getElem hk]
  exact ⟨L[k], List.getElem_mem hk, by rw [← e]; exact h⟩
theorem any_good {L : List ByteArray} (h : ∀ k, k < L.length → badP (L.getD k ByteArray.empty) = false) : L.any badP = false := by
  rw [List.any_eq_false]
  intro p hp
  obtain ⟨k, hk, rfl⟩ := List.mem_iff_getElem.1 hp
  have e : L.getD k ByteArray.empty = L[k] := by simp [List.getD, List.getElem?_eq_getElem hk]
  have := h k hk
  rw [e] at this
  simp [this]
theorem tv_eq {x : Int} {s : ByteArray} (h : 0 ≤ x ∧ x < 6 ∧ 1 ≤ s.size ∧ s.size ≤ 100) : tv x s =
    (cln s && !(PC s).any badP && !(s[0] == 58 || (decide (97 ≤ s[0].toNat) && decide (s[0].toNat ≤ 122))) && (decide (x ≠ 0) || !nmd (bl s))) := by unfold tv; rw [dif_pos h]

set_option maxRecDepth 100000 in
set_option maxHeartbeats 4000000 in
theorem title_any (x : Int) (s : ByteArray) (m : Int) (w : World) (hm : w.cell? ⟨0, 0, none⟩ = some (.int .i64 m)) (hw0 : 0 < w.heap.size) :
    Calls Tryd.prog 50 #[.agg #[.int .i64 x, .string s]] w fun e w' => e = .returned (.bool (tv x s)) ∧ Below w.heap.size w w' := by
  by_cases h : 0 ≤ x ∧ x < 6 ∧ 1 ≤ s.size ∧ s.size ≤ 100
  · have hT := tv_eq h
    obtain ⟨h1, h2, h3, h4⟩ := h
    have q1 : ¬ x < 0 := by omega
    have q2 : ¬ 6 ≤ x := by omega
    have q3 : ¬ (s.size : Int) < 1 := by omega
    have q4 : ¬ (100 : Int) < (s.size : Int) := by omega
    have HM : Hid (∀ W, Below w.heap.size w W → W.cell? ⟨0, 0, none⟩ = some (.int .i64 m)) := Lib.hid fun W hb => (hb.cell (p := ⟨0, 0, none⟩) hw0).trans hm
    have HC := Lib.hid fun W => clean_any s W (by omega)
    have HS := Lib.hid fun (W : World) hW => split_any s m W (by omega) hW
    have HP := Lib.hid fun (W : World) hW => prefix_any s m W (by omega) hW
    generalize hcl : cln s = cl at *
    generalize nmd (bl s) = nm at *
    have HT := Lib.hid hT
    clear hT hcl
    cases cl with
    | false =>
      go_enter Tryd.func50, Tryd.ntmps50
      go_wp2_with (first
        | (go_at_call 53; refine (HC.out _).mono ?_; rintro e w1 ⟨rfl, hb1⟩))
      go_ret
      exact ⟨by rw [HT.out]; rfl, by (refine bel_out ?_; (focus (repeat' first | (with_reducible refine bel_refl ?_) | with_reducible assumption | with_reducible refine bel_drew ?_ | with_reducible refine bel_drewN _ ?_ | with_reducible refine bel_alloc _ ?_ | with_reducible refine bel_set ?_ _ ?_ | (with_reducible apply bel_call; with_reducible assumption) | (with_reducible apply bel_owg; with_reducible assumption; (focus omega)) | with_reducible exact Nat.le_refl _ | omega | (simp; done) | (simp; omega))))⟩
    | true =>
      go_enter Tryd.func50, Tryd.ntmps50
      go_wp2_with (first
        | (go_at_call 53; refine (HC.out _).mono ?_; rintro e w1 ⟨rfl, hb1⟩)
        | (go_at_call 54; refine (HS.out _ ?_).mono ?_; (focus (refine HM.out _ ?_; (refine bel_out ?_; (focus (repeat' first | (with_reducible refine bel_refl ?_) | with_reducible assumption | with_reducible refine bel_drew ?_ | with_reducible refine bel_drewN _ ?_ | with_reducible refine bel_alloc _ ?_ | with_reducible refine bel_set ?_ _ ?_ | (with_reducible apply bel_call; with_reducible assumption) | (with_reducible apply bel_owg; with_reducible assumption; (focus omega)) | with_reducible exact Nat.le_refl _ | omega | (simp; done) | (simp; omega)))))); rintro e w2 ⟨rfl, hw2'⟩; (have hw2 := Lib.hid hw2'); clear hw2'))
      have hx2 : w2.heap[w.heap.size]? = some (.cells #[.int .i64 x, .string s] 26 (0, 0)) := by rw [hw2.out]; (focus (repeat' first | with_reducible assumption | (with_reducible refine heap_drew ?_) | (with_reducible refine heap_drewN ?_) | (with_reducible refine heap_new ?_; focus (first | rfl | omega | (simp; done))) | (with_reducible refine heap_old ?_) | (with_reducible apply heap_near') | ((with_reducible show Array.setIfInBounds _ _ _ = _); rfl) | (with_reducible refine heap_far ?_ ?_; focus (first | omega | (simp; omega) | (simp; done))) | (with_reducible apply heap_grown; with_reducible assumption; (focus (first | omega | (simp; omega)))) | (with_reducible apply heap_call; with_reducible assumption)))
      have hz2 : w1.heap.size < w2.heap.size := by rw [hw2.out, size_alloc_]; exact Nat.lt_succ_self _
      have hb02 : Below w.heap.size w w2 := by
        have hb01 : Below w.heap.size w w1 := by (refine bel_out ?_; (focus (repeat' first | (with_reducible refine bel_refl ?_) | with_reducible assumption | with_reducible refine bel_drew ?_ | with_reducible refine bel_drewN _ ?_ | with_reducible refine bel_alloc _ ?_ | with_reducible refine bel_set ?_ _ ?_ | (with_reducible apply bel_call; with_reducible assumption) | (with_reducible apply bel_owg; with_reducible assumption; (focus omega)) | with_reducible exact Nat.le_refl _ | omega | (simp; done) | (simp; omega))))
        rw [hw2.out]
        exact hb01.alloc hb01.size _
      have HK : Hid (∀ k, k < (PC s).length → w2.cell? ⟨w1.heap.size, k, none⟩ = some (.string ((PC s).getD k ByteArray.empty))) := Lib.hid fun k hk => by rw [hw2.out]; exact PC_cell _ _ _ _ hk
      have hle := PC_len s
      have HA : Hid (∀ k, k < (PC s).length → badP ((PC s).getD k ByteArray.empty) = true → (PC s).any badP = true) := Lib.hid fun k hk h => any_bad hk h
      have HG : Hid ((∀ k, k < (PC s).length → badP ((PC s).getD k ByteArray.empty) = false) → (PC s).any badP = false) := Lib.hid any_good
      have hzw : w.heap.size < w2.heap.size := Nat.lt_of_le_of_lt (Nat.le_trans (Nat.le_succ _) (by have := hb1.size; rw [size_alloc_] at this; exact this)) hz2
      have HSM : Hid (∀ k, ((PC s).getD k ByteArray.empty).size ≤ 100) := Lib.hid fun k => by rw [← PCt_all]; exact Nat.le_trans (PCt_small k) h4
      clear hw2 hb1 HC HS
      generalize w1.heap.size = g at *
      generalize (PC s).any badP = anb at *
      generalize PC s = L at *
      have k0 := Blk.cell hx2 0
      clear hx2
      generalize hN : L.length = N at *
      clear hN
      go_loopw [37] (fun v wr => ∃ k : Nat, k ≤ N ∧ v = .int .i64 k ∧ wr = w2 ∧ Hid (∀ j, j < k → badP (L.getD j ByteArray.empty) = false)) (fun v _ => N - (intOf v).toNat)
      case atStart => exact ⟨0, Nat.zero_le _, rfl, rfl, Lib.hid fun j h => by omega⟩
      case round =>
        obtain ⟨k, hk, rfl, hwr, HB⟩ := hrel
        obtain rfl := hwr.symm
        by_cases hlt : k < N
        · have c1 := HK.out k hlt
          have HA1 := Lib.hid (HA.out k hlt)
          have HN : Hid (badP (L.getD k ByteArray.empty) = false → ∀ j, j < k + 1 → badP (L.getD j ByteArray.empty) = false) := Lib.hid fun h j hj => by
            rcases Nat.lt_or_ge j k with h1 | h1
            · exact HB.out j h1
            · obtain rfl : j = k := by omega
              exact h
          have z0 : (0 : Int) ≤ (k : Int) := by omega
          have z1 : (k : Int) < (N : Int) := by omega
          have z8 := HSM.out k
          generalize L.getD k ByteArray.empty = p at *
          clear HA HG HB HK HSM
          by_cases e1 : p.size = 0
          · have HR : Hid (tv x s = false) := Lib.hid (by rw [HT.out, HA1.out (by unfold badP; rw [dif_neg (by omega)])]; rfl)
            obtain rfl : p = ByteArray.empty := by
              apply ByteArray.ext
              apply Array.eq_empty_of_size_eq_zero
              exact e1
            go_wp2_with fail
            go_ret
            exact ⟨by rw [HR.out]; rfl, hb02⟩
          · have hE := badP_eq (p := p) (by omega)
            have hn1 : ¬ p = ByteArray.empty := fun e => e1 (by rw [e]; rfl)
            have q5a : ¬ p.toList = [] := fun e => hn1 (by rw [ByteArray.toList_eq] at e; exact ByteArray.ext (Array.toList_inj.1 e))
            have q5 : p.toList.isEmpty = false := by simpa using q5a
            have z2 : (0 : Int) < (p.size : Int) := by omega
            have z3 : 0 < p.size := by omega
            have z4 : (p.size : Int) - 1 < (p.size : Int) := by omega
            have z5 : (0 : Int) ≤ (p.size : Int) - 1 := by omega
            have z6 : ((p.size : Int) - 1).toNat = p.size - 1 := by omega
            have z7 : p.size - 1 < p.size := by omega
            clear hn1
            by_cases e2 : p[0] = 32
            · have HR : Hid (tv x s = false) := Lib.hid (by rw [HT.out, HA1.out (by rw [hE, e2]; rfl)]; rfl)
              have q6 : ((p[0].toNat : Int) == 32) = true := by rw [e2]; rfl
              clear hE e2
              go_wp2_with fail
              go_ret
              exact ⟨by rw [HR.out]; rfl, hb02⟩
            have q6 : ((p[0].toNat : Int) == 32) = false := (@u8_eq p[0] 32).trans (decide_eq_false e2)
            by_cases e3 : p[p.size - 1] = 32
            · have HR : Hid (tv x s = false) := Lib.hid (by rw [HT.out, HA1.out (by rw [hE, e3]; simp)]; rfl)
              have q7 : ((p[p.size - 1].toNat : Int) == 32) = true := by rw [e3]; rfl
              clear hE e2 e3
              go_wp2_with fail
              go_ret
              exact ⟨by rw [HR.out]; rfl, hb02⟩
            have q7 : ((p[p.size - 1].toNat : Int) == 32) = false := (@u8_eq p[p.size - 1] 32).trans (decide_eq_false e3)
            have HN2 := Lib.hid (HN.out (by rw [hE]; simp [e2, e3]))
            clear hE e2 e3 HN HA1
            go_wp2_with fail
            go_roundw
            case rel => exact ⟨k + 1, by omega, by go_num, (by first | rfl | trivial), HN2⟩
            case measure => simp [intOf]; omega
        · obtain rfl : k = N := by omega
          have HR : Hid (anb = false) := Lib.hid (HG.out HB.out)
          have z0 : 0 < s.size := by omega
          have z1 : (0 : Int) < (s.size : Int) := by omega
          clear HK HA HG HB
          by_cases e1 : s[0] = 58
          · have HR2 : Hid (tv x s = false) := Lib.hid (by rw [HT.out, HR.out, e1]; simp)
            have q5 : ((s[0].toNat : Int) == 58) = true := by rw [e1]; rfl
            clear e1
            go_wp2_with fail
            go_ret
            exact ⟨by rw [HR2.out]; rfl, hb02⟩
          have q5 : ((s[0].toNat : Int) == 58) = false := (@u8_eq s[0] 58).trans (decide_eq_false e1)
          by_cases e2 : 97 ≤ s[0].toNat
          · have q6 : (97 : Int) ≤ (s[0].toNat : Int) := by omega
            by_cases e3 : s[0].toNat ≤ 122
            · have q7 : (s[0].toNat : Int) ≤ 122 := by omega
              have HR2 : Hid (tv x s = false) := Lib.hid (by rw [HT.out, HR.out]; simp [e2, e3])
              clear e1
              go_wp2_with fail
              go_ret
              exact ⟨by rw [HR2.out]; rfl, hb02⟩
            have q7 : ¬ (s[0].toNat : Int) ≤ 122 := by omega
            have HR2 : Hid (tv x s = (decide (x ≠ 0) || !nm)) := Lib.hid (by rw [HT.out, HR.out]; simp [e1, e2, e3])
            clear e1
            by_cases e4 : x = 0
            · subst e4
              have HR3 : Hid (tv 0 s = !nm) := Lib.hid (by rw [HR2.out]; simp)
              go_wp2_with (go_at_call 55; refine (HP.out _ ?_).mono ?_; (focus (refine HM.out _ ?_; (refine bel_out ?_; (focus (repeat' first | (with_reducible refine bel_refl ?_) | with_reducible assumption | with_reducible refine bel_drew ?_ | with_reducible refine bel_drewN _ ?_ | with_reducible refine bel_alloc _ ?_ | with_reducible refine bel_set ?_ _ ?_ | (with_reducible apply bel_call; with_reducible assumption) | (with_reducible apply bel_owg; with_reducible assumption; (focus omega)) | with_reducible exact Nat.le_refl _ | omega | (simp; done) | (simp; omega)))))); rintro e w3 ⟨⟨pa, pb, rfl⟩, hb3⟩; have k3 := (hb3.cell (p := ⟨w.heap.size, 0, none⟩) hzw).trans k0)
              go_ret
              exact ⟨by rw [HR3.out]; rfl, below_call hb02 hb3⟩
            · have q8 : (x == 0) = false := by simpa using e4
              have HR3 : Hid (tv x s = true) := Lib.hid (by rw [HR2.out]; simp [e4])
              go_wp2_with (go_at_call 55; refine (HP.out _ ?_).mono ?_; (focus (refine HM.out _ ?_; (refine bel_out ?_; (focus (repeat' first | (with_reducible refine bel_refl ?_) | with_reducible assumption | with_reducible refine bel_drew ?_ | with_reducible refine bel_drewN _ ?_ | with_reducible refine bel_alloc _ ?_ | with_reducible refine bel_set ?_ _ ?_ | (with_reducible apply bel_call; with_reducible assumption) | (with_reducible apply bel_owg; with_reducible assumption; (focus omega)) | with_reducible exact Nat.le_refl _ | omega | (simp; done) | (simp; omega)))))); rintro e w3 ⟨⟨pa, pb, rfl⟩, hb3⟩; have k3 := (hb3.cell (p := ⟨w.heap.size, 0, none⟩) hzw).trans k0)
              go_ret
              exact ⟨by rw [HR3.out]; rfl, below_call hb02 hb3⟩
          have q6 : ¬ (97 : Int) ≤ (s[0].toNat : Int) := by omega
          have HR2 : Hid (tv x s = (decide (x ≠ 0) || !nm)) := Lib.hid (by rw [HT.out, HR.out]; simp [e1, e2])
          clear e1
          by_cases e4 : x = 0
          · subst e4
            have HR3 : Hid (tv 0 s = !nm) := Lib.hid (by rw [HR2.out]; simp)
            go_wp2_with (go_at_call 55; refine (HP.out _ ?_).mono ?_; (focus (refine HM.out _ ?_; (refine bel_out ?_; (focus (repeat' first | (with_reducible refine bel_refl ?_) | with_reducible assumption | with_reducible refine bel_drew ?_ | with_reducible refine bel_drewN _ ?_ | with_reducible refine bel_alloc _ ?_ | with_reducible refine bel_set ?_ _ ?_ | (with_reducible apply bel_call; with_reducible assumption) | (with_reducible apply bel_owg; with_reducible assumption; (focus omega)) | with_reducible exact Nat.le_refl _ | omega | (simp; done) | (simp; omega)))))); rintro e w3 ⟨⟨pa, pb, rfl⟩, hb3⟩; have k3 := (hb3.cell (p := ⟨w.heap.size, 0, none⟩) hzw).trans k0)
            go_ret
            exact ⟨by rw [HR3.out]; rfl, below_call hb02 hb3⟩
          · have q8 : (x == 0) = false := by simpa using e4
            have HR3 : Hid (tv x s = true) := Lib.hid (by rw [HR2.out]; simp [e4])
            go_wp2_with (go_at_call 55; refine (HP.out _ ?_).mono ?_; (focus (refine HM.out _ ?_; (refine bel_out ?_; (focus (repeat' first | (with_reducible refine bel_refl ?_) | with_reducible assumption | with_reducible refine bel_drew ?_ | with_reducible refine bel_drewN _ ?_ | with_reducible refine bel_alloc _ ?_ | with_reducible refine bel_set ?_ _ ?_ | (with_reducible apply bel_call; with_reducible assumption) | (with_reducible apply bel_owg; with_reducible assumption; (focus omega)) | with_reducible exact Nat.le_refl _ | omega | (simp; done) | (simp; omega)))))); rintro e w3 ⟨⟨pa, pb, rfl⟩, hb3⟩; have k3 := (hb3.cell (p := ⟨w.heap.size, 0, none⟩) hzw).trans k0)
            go_ret
            exact ⟨by rw [HR3.out]; rfl, below_call hb02 hb3⟩
  · have hT : Hid (tv x s = false) := Lib.hid (by unfold tv; rw [dif_neg h])
    by_cases h1 : x < 0
    · go_enter Tryd.func50, Tryd.ntmps50
      go_wp2_with fail
      go_ret
      exact ⟨by rw [hT.out]; rfl, by (refine bel_out ?_; (focus (repeat' first | (with_reducible refine bel_refl ?_) | with_reducible assumption | with_reducible refine bel_drew ?_ | with_reducible refine bel_drewN _ ?_ | with_reducible refine bel_alloc _ ?_ | with_reducible refine bel_set ?_ _ ?_ | (with_reducible apply bel_call; with_reducible assumption) | (with_reducible apply bel_owg; with_reducible assumption; (focus omega)) | with_reducible exact Nat.le_refl _ | omega | (simp; done) | (simp; omega))))⟩
    by_cases h2 : 6 ≤ x
    · go_enter Tryd.func50, Tryd.ntmps50
      go_wp2_with fail
      go_ret
      exact ⟨by rw [hT.out]; rfl, by (refine bel_out ?_; (focus (repeat' first | (with_reducible refine bel_refl ?_) | with_reducible assumption | with_reducible refine bel_drew ?_ | with_reducible refine bel_drewN _ ?_ | with_reducible refine bel_alloc _ ?_ | with_reducible refine bel_set ?_ _ ?_ | (with_reducible apply bel_call; with_reducible assumption) | (with_reducible apply bel_owg; with_reducible assumption; (focus omega)) | with_reducible exact Nat.le_refl _ | omega | (simp; done) | (simp; omega))))⟩
    by_cases h3 : (s.size : Int) < 1
    · go_enter Tryd.func50, Tryd.ntmps50
      go_wp2_with fail
      go_ret
      exact ⟨by rw [hT.out]; rfl, by (refine bel_out ?_; (focus (repeat' first | (with_reducible refine bel_refl ?_) | with_reducible assumption | with_reducible refine bel_drew ?_ | with_reducible refine bel_drewN _ ?_ | with_reducible refine bel_alloc _ ?_ | with_reducible refine bel_set ?_ _ ?_ | (with_reducible apply bel_call; with_reducible assumption) | (with_reducible apply bel_owg; with_reducible assumption; (focus omega)) | with_reducible exact Nat.le_refl _ | omega | (simp; done) | (simp; omega))))⟩
    have h4 : (100 : Int) < (s.size : Int) := by omega
    go_enter Tryd.func50, Tryd.ntmps50
    go_wp2_with fail
    go_ret
    exact ⟨by rw [hT.out]; rfl, by (refine bel_out ?_; (focus (repeat' first | (with_reducible refine bel_refl ?_) | with_reducible assumption | with_reducible refine bel_drew ?_ | with_reducible refine bel_drewN _ ?_ | with_reducible refine bel_alloc _ ?_ | with_reducible refine bel_set ?_ _ ?_ | (with_reducible apply bel_call; with_reducible assumption) | (with_reducible apply bel_owg; with_reducible assumption; (focus omega)) | with_reducible exact Nat.le_refl _ | omega | (simp; done) | (simp; omega))))⟩
end Go.Proofs.YtobgnncdldfkkaaDoor
