/- The walk of the law DiskSynced. -/
import Derived.Test.YtdfmdciopeklhaaMade
namespace Go.Proofs.Ytdfmdciopeklhaa
open Go.RowKit
set_option linter.unusedSimpArgs false
set_option linter.unusedVariables false

theorem valid_full {n : Nat} (h : n ≤ 1048576) : validB n (n : Int) = true := by simp [validB]; omega
theorem crash_full (A : Option Addr) (n c : Nat) (l : List UInt8) (keep sp : Int) (w : World) (hr : RdB w A n c l) (hn : n ≤ 1048576) :
    Calls Try.prog 14 #[.agg #[.slice A n c, .int .i64 n], .int .i64 keep, .int .i64 sp] w (RDisk w l n) := by
  have h := crash_zero A n c n l keep sp w hr (by omega) (valid_full hn) (by unfold crK; omega)
  have e : l.take n = l := by rw [hr.len]; exact List.take_length
  rw [e] at h
  exact h
theorem crash_valid {A : Option Addr} {n c : Nat} {l : List UInt8} {s : Int} (keep sp : Int) (hn : n = l.length) (hv : validB n s = true) :
    ∃ l' : List UInt8, l'.length ≤ n ∧ ∀ W : World, RdB W A n c l → Calls Try.prog 14 #[.agg #[.slice A n c, .int .i64 s], .int .i64 keep, .int .i64 sp] W (RDisk W l' l'.length) := by
  obtain ⟨v1, v2, v3⟩ := valid_le hv
  obtain ⟨S, rfl⟩ := Int.eq_ofNat_of_zero_le v1
  have hK : 0 ≤ crK n S keep := by unfold crK; omega
  obtain ⟨K, hK⟩ := Int.eq_ofNat_of_zero_le hK
  cases K with
  | zero =>
    have e : (l.take S).length = S := by rw [List.length_take]; omega
    refine ⟨l.take S, by omega, fun W hW => ?_⟩
    rw [e]
    exact crash_zero A n c S l keep sp W hW (by omega) hv hK
  | succ K =>
    have hk2 : S + K + 1 ≤ n := by unfold crK at hK; omega
    have e : ((l.take (S + K + 1)).set (S + K) (l.getD (S + K) 0 ^^^ low8 sp)).length = S + K + 1 := by rw [List.length_set, List.length_take]; omega
    refine ⟨(l.take (S + K + 1)).set (S + K) (l.getD (S + K) 0 ^^^ low8 sp), by omega, fun W hW => ?_⟩
    rw [e]
    exact crash_pos A n c S K l keep sp W hW (by omega) hv hK

set_option maxHeartbeats 3200000 in
theorem synced_walk (A : Option Addr) (n c : Nat) (zs : List Int) (x keep sp more : Int) (w : World) (hr : RdI w A n c zs) :
    Calls Try.prog 5 #[.slice A n c, .int .i64 x, .int .i64 keep, .int .i64 sp, .int .i64 more] w fun e w' => e = .returned (.bool true) ∧ Below w.heap.size w w' := by
  have hA := Lib.hid (awake_law w)
  have HM := Lib.hid (made_any A n c zs x w hr)
  go_enter Try.func5, Try.ntmps5
  go_wp2_with fail
  refine HM.out.mono ?_
  rintro e w1 ⟨v1, rfl, ⟨A1, n1, c1, l1, s1, rfl, ho1, hv1, hn1⟩, hb1⟩
  have hr1 := ho1.rd
  obtain ⟨l3, hl3, hcr⟩ := crash_valid (A := A1) (c := c1) keep sp hr1.len hv1
  have HCR := Lib.hid hcr
  clear hcr
  go_wp2_with (first
    | (go_at_call 12; refine (sync_ok A1 n1 c1 l1 s1 _ ?_ hv1).mono ?_; (focus (refine RdB.below hr1 ?_; (refine bel_out ?_; (focus (repeat' first | (with_reducible refine bel_refl ?_) | with_reducible assumption | with_reducible refine bel_drew ?_ | with_reducible refine bel_drewN _ ?_ | with_reducible refine bel_alloc _ ?_ | with_reducible refine bel_set ?_ _ ?_ | (with_reducible apply bel_call; with_reducible assumption) | with_reducible exact Nat.le_refl _ | omega | (simp; done) | (simp; omega)))))); rintro e w2 ⟨v2, rfl, ⟨A2, n2, c2, rfl, ho2⟩, hb2⟩; (obtain rfl : n2 = n1 := ho2.len.trans hr1.len.symm); obtain ⟨kc2, kf2, kz2, kh2⟩ := blk_cells hb2 (g := w1.heap.size) (t := 24) (cs := #[.slice A1 _ c1, .int .i64 s1]) (by (focus (repeat' first | with_reducible assumption | (with_reducible refine heap_drew ?_) | (with_reducible refine heap_drewN ?_) | (with_reducible refine heap_new ?_; focus (first | rfl | omega | (simp; done))) | (with_reducible refine heap_old ?_) | (with_reducible apply heap_near') | ((with_reducible show Array.setIfInBounds _ _ _ = _); rfl) | (with_reducible refine heap_far ?_ ?_; focus (first | omega | (simp; omega) | (simp; done))) | (with_reducible apply heap_grown; with_reducible assumption; (focus (first | omega | (simp; omega)))) | (with_reducible apply heap_call; with_reducible assumption)))))
    | (go_at_call 14; refine (HCR.out _ ?_).mono ?_; (focus (refine RdB.below hr1 ?_; (refine bel_out ?_; (focus (repeat' first | (with_reducible refine bel_refl ?_) | with_reducible assumption | with_reducible refine bel_drew ?_ | with_reducible refine bel_drewN _ ?_ | with_reducible refine bel_alloc _ ?_ | with_reducible refine bel_set ?_ _ ?_ | (with_reducible apply bel_call; with_reducible assumption) | with_reducible exact Nat.le_refl _ | omega | (simp; done) | (simp; omega)))))); rintro e w3 ⟨v3, rfl, ⟨A3, n3, c3, rfl, ho3⟩, hb3⟩; (obtain hn3 := ho3.len); subst hn3))
  have hr2 := ho2.rd
  have hr3 := ho3.rd
  have HK : Hid (∀ W : World, Below (w3.alloc (.cells #[.slice A3 l3.length c3, .int .i64 l3.length] 24)).heap.size (w3.alloc (.cells #[.slice A3 l3.length c3, .int .i64 l3.length] 24)) W →
      W.cell? ⟨w1.heap.size, 0, none⟩ = some (.slice A1 n2 c1) ∧ W.cell? ⟨w1.heap.size, 1, none⟩ = some (.int .i64 s1) ∧
      W.cell? ⟨w2.heap.size, 0, none⟩ = some (.slice A2 n2 c2) ∧ W.cell? ⟨w2.heap.size, 1, none⟩ = some (.int .i64 n2) ∧
      W.cell? ⟨w3.heap.size, 0, none⟩ = some (.slice A3 l3.length c3) ∧ W.cell? ⟨w3.heap.size, 1, none⟩ = some (.int .i64 l3.length)) := by
    intro W hW
    obtain ⟨kcp1, kfp1, kzp1, khp1⟩ := blk_cells hW (g := w1.heap.size) (t := 24) (cs := #[.slice A1 n2 c1, .int .i64 s1]) (by (focus (repeat' first | with_reducible assumption | (with_reducible refine heap_drew ?_) | (with_reducible refine heap_drewN ?_) | (with_reducible refine heap_new ?_; focus (first | rfl | omega | (simp; done))) | (with_reducible refine heap_old ?_) | (with_reducible apply heap_near') | ((with_reducible show Array.setIfInBounds _ _ _ = _); rfl) | (with_reducible refine heap_far ?_ ?_; focus (first | omega | (simp; omega) | (simp; done))) | (with_reducible apply heap_grown; with_reducible assumption; (focus (first | omega | (simp; omega)))) | (with_reducible apply heap_call; with_reducible assumption))))
    obtain ⟨kcp2, kfp2, kzp2, khp2⟩ := blk_cells hW (g := w2.heap.size) (t := 24) (cs := #[.slice A2 n2 c2, .int .i64 n2]) (by (focus (repeat' first | with_reducible assumption | (with_reducible refine heap_drew ?_) | (with_reducible refine heap_drewN ?_) | (with_reducible refine heap_new ?_; focus (first | rfl | omega | (simp; done))) | (with_reducible refine heap_old ?_) | (with_reducible apply heap_near') | ((with_reducible show Array.setIfInBounds _ _ _ = _); rfl) | (with_reducible refine heap_far ?_ ?_; focus (first | omega | (simp; omega) | (simp; done))) | (with_reducible apply heap_grown; with_reducible assumption; (focus (first | omega | (simp; omega)))) | (with_reducible apply heap_call; with_reducible assumption))))
    obtain ⟨kcp3, kfp3, kzp3, khp3⟩ := blk_cells hW (g := w3.heap.size) (t := 24) (cs := #[.slice A3 l3.length c3, .int .i64 l3.length]) (by (focus (repeat' first | with_reducible assumption | (with_reducible refine heap_drew ?_) | (with_reducible refine heap_drewN ?_) | (with_reducible refine heap_new ?_; focus (first | rfl | omega | (simp; done))) | (with_reducible refine heap_old ?_) | (with_reducible apply heap_near') | ((with_reducible show Array.setIfInBounds _ _ _ = _); rfl) | (with_reducible refine heap_far ?_ ?_; focus (first | omega | (simp; omega) | (simp; done))) | (with_reducible apply heap_grown; with_reducible assumption; (focus (first | omega | (simp; omega)))) | (with_reducible apply heap_call; with_reducible assumption))))
    exact ⟨kcp1 0, kcp1 1, kcp2 0, kcp2 1, kcp3 0, kcp3 1⟩
  have hn2 : n2 ≤ 1048576 := by omega
  have hn3 : l3.length ≤ 1048576 := by omega
  clear kc2 kf2 kh2
  go_region_held3 (fun W =>
      W.cell? ⟨w1.heap.size, 0, none⟩ = some (.slice A1 n2 c1) ∧ W.cell? ⟨w1.heap.size, 1, none⟩ = some (.int .i64 s1) ∧
      W.cell? ⟨w2.heap.size, 0, none⟩ = some (.slice A2 n2 c2) ∧ W.cell? ⟨w2.heap.size, 1, none⟩ = some (.int .i64 n2) ∧
      W.cell? ⟨w3.heap.size, 0, none⟩ = some (.slice A3 l3.length c3) ∧ W.cell? ⟨w3.heap.size, 1, none⟩ = some (.int .i64 l3.length))
    ((refine HK.out _ ?_; (refine bel_out ?_; (focus (repeat' first | (with_reducible refine bel_refl ?_) | with_reducible assumption | with_reducible refine bel_drew ?_ | with_reducible refine bel_drewN _ ?_ | with_reducible refine bel_alloc _ ?_ | with_reducible refine bel_set ?_ _ ?_ | (with_reducible apply bel_call; with_reducible assumption) | with_reducible exact Nat.le_refl _ | omega | (simp; done) | (simp; omega)))); done))
    (first
      | (go_at_call 10; refine (hA.out _ ?_).mono ?_; (refine bel_out ?_; (focus (repeat' first | (with_reducible refine bel_refl ?_) | with_reducible assumption | with_reducible refine bel_drew ?_ | with_reducible refine bel_drewN _ ?_ | with_reducible refine bel_alloc _ ?_ | with_reducible refine bel_set ?_ _ ?_ | (with_reducible apply bel_call; with_reducible assumption) | with_reducible exact Nat.le_refl _ | omega | (simp; done) | (simp; omega)))); rintro e w5 ⟨rfl, hb5⟩)
      | (go_at_call 14; (with_reducible refine (crash_full A2 n2 c2 l1 _ _ _ ?_ hn2).mono ?_); (focus (refine RdB.below hr2 ?_; (refine bel_out ?_; (focus (repeat' first | (with_reducible refine bel_refl ?_) | with_reducible assumption | with_reducible refine bel_drew ?_ | with_reducible refine bel_drewN _ ?_ | with_reducible refine bel_alloc _ ?_ | with_reducible refine bel_set ?_ _ ?_ | (with_reducible apply bel_call; with_reducible assumption) | with_reducible exact Nat.le_refl _ | omega | (simp; done) | (simp; omega)))))); rintro e w6 ⟨v6, rfl, ⟨A6, n6, c6, rfl, ho6⟩, hb6⟩; have hr6 := ho6.rd; (have hn6 : n6 = n2 := ho6.len.trans hr1.len.symm); subst hn6)
      | (go_at_call 14; (with_reducible refine (crash_full A3 l3.length c3 l3 _ _ _ ?_ hn3).mono ?_); (focus (refine RdB.below hr3 ?_; (refine bel_out ?_; (focus (repeat' first | (with_reducible refine bel_refl ?_) | with_reducible assumption | with_reducible refine bel_drew ?_ | with_reducible refine bel_drewN _ ?_ | with_reducible refine bel_alloc _ ?_ | with_reducible refine bel_set ?_ _ ?_ | (with_reducible apply bel_call; with_reducible assumption) | with_reducible exact Nat.le_refl _ | omega | (simp; done) | (simp; omega)))))); rintro e w7 ⟨v7, rfl, ⟨A7, n7, c7, rfl, ho7⟩, hb7⟩; have hr7 := ho7.rd)
      | (go_at_call 11; (with_reducible refine (samedisk_true A6 _ c6 A2 _ c2 l1 _ _ ?_ ?_).mono ?_); (focus (refine RdB.below hr6 ?_; (refine bel_out ?_; (focus (repeat' first | (with_reducible refine bel_refl ?_) | with_reducible assumption | with_reducible refine bel_drew ?_ | with_reducible refine bel_drewN _ ?_ | with_reducible refine bel_alloc _ ?_ | with_reducible refine bel_set ?_ _ ?_ | (with_reducible apply bel_call; with_reducible assumption) | with_reducible exact Nat.le_refl _ | omega | (simp; done) | (simp; omega)))))); (focus (refine RdB.below hr2 ?_; (refine bel_out ?_; (focus (repeat' first | (with_reducible refine bel_refl ?_) | with_reducible assumption | with_reducible refine bel_drew ?_ | with_reducible refine bel_drewN _ ?_ | with_reducible refine bel_alloc _ ?_ | with_reducible refine bel_set ?_ _ ?_ | (with_reducible apply bel_call; with_reducible assumption) | with_reducible exact Nat.le_refl _ | omega | (simp; done) | (simp; omega)))))); rintro e w8 ⟨rfl, hb8⟩)
      | (go_at_call 11; (with_reducible refine (samedisk_true A7 _ c7 A3 _ c3 l3 _ _ ?_ ?_).mono ?_); (focus (refine RdB.below hr7 ?_; (refine bel_out ?_; (focus (repeat' first | (with_reducible refine bel_refl ?_) | with_reducible assumption | with_reducible refine bel_drew ?_ | with_reducible refine bel_drewN _ ?_ | with_reducible refine bel_alloc _ ?_ | with_reducible refine bel_set ?_ _ ?_ | (with_reducible apply bel_call; with_reducible assumption) | with_reducible exact Nat.le_refl _ | omega | (simp; done) | (simp; omega)))))); (focus (refine RdB.below hr3 ?_; (refine bel_out ?_; (focus (repeat' first | (with_reducible refine bel_refl ?_) | with_reducible assumption | with_reducible refine bel_drew ?_ | with_reducible refine bel_drewN _ ?_ | with_reducible refine bel_alloc _ ?_ | with_reducible refine bel_set ?_ _ ?_ | (with_reducible apply bel_call; with_reducible assumption) | with_reducible exact Nat.le_refl _ | omega | (simp; done) | (simp; omega)))))); rintro e w9 ⟨rfl, hb9⟩)
      | (go_at_call 17; (with_reducible refine (same_true A2 _ c2 A1 _ c1 l1 l1 _ ?_ ?_ rfl).mono ?_); (focus (refine RdB.below hr2 ?_; (refine bel_out ?_; (focus (repeat' first | (with_reducible refine bel_refl ?_) | with_reducible assumption | with_reducible refine bel_drew ?_ | with_reducible refine bel_drewN _ ?_ | with_reducible refine bel_alloc _ ?_ | with_reducible refine bel_set ?_ _ ?_ | (with_reducible apply bel_call; with_reducible assumption) | with_reducible exact Nat.le_refl _ | omega | (simp; done) | (simp; omega)))))); (focus (refine RdB.below hr1 ?_; (refine bel_out ?_; (focus (repeat' first | (with_reducible refine bel_refl ?_) | with_reducible assumption | with_reducible refine bel_drew ?_ | with_reducible refine bel_drewN _ ?_ | with_reducible refine bel_alloc _ ?_ | with_reducible refine bel_set ?_ _ ?_ | (with_reducible apply bel_call; with_reducible assumption) | with_reducible exact Nat.le_refl _ | omega | (simp; done) | (simp; omega)))))); rintro e w10 ⟨rfl, hb10⟩))
  go_wp2
  go_ret
  exact ⟨rfl, by (refine bel_out ?_; (focus (repeat' first | (with_reducible refine bel_refl ?_) | with_reducible assumption | with_reducible refine bel_drew ?_ | with_reducible refine bel_drewN _ ?_ | with_reducible refine bel_alloc _ ?_ | with_reducible refine bel_set ?_ _ ?_ | (with_reducible apply bel_call; with_reducible assumption) | with_reducible exact Nat.le_refl _ | omega | (simp; done) | (simp; omega))))⟩

end Go.Proofs.Ytdfmdciopeklhaa
