/- The walk of the law DiskCrashes. -/
import Derived.Test.YtdfmdciopeklhaaLaws0
namespace Go.Proofs.Ytdfmdciopeklhaa
open Go.RowKit
set_option linter.unusedSimpArgs false
set_option linter.unusedVariables false

set_option maxHeartbeats 3200000 in
theorem crashes_walk (A : Option Addr) (n c : Nat) (l : List UInt8) (s keep sp : Int) (w : World) (hr : RdB w A n c l) :
    Calls Try.prog 3 #[.agg #[.slice A n c, .int .i64 s], .int .i64 keep, .int .i64 sp] w fun e w' => e = .returned (.bool true) ∧ Below w.heap.size w w' := by
  have hA := Lib.hid (awake_law w)
  by_cases h5 : 5000 < n
  · have hd : decide (5000 < n) = true := by simpa using h5
    go_enter Try.func3, Try.ntmps3
    go_wp2_with (go_at_call 10; refine (hA.out _ ?_).mono ?_; (refine bel_out ?_; (focus (repeat' first | (with_reducible refine bel_refl ?_) | with_reducible assumption | with_reducible refine bel_drew ?_ | with_reducible refine bel_drewN _ ?_ | with_reducible refine bel_alloc _ ?_ | with_reducible refine bel_set ?_ _ ?_ | (with_reducible apply bel_call; with_reducible assumption) | with_reducible exact Nat.le_refl _ | omega | (simp; done) | (simp; omega)))); rintro e w1 ⟨rfl, hb1⟩)
    go_ret
    exact ⟨rfl, by (refine bel_out ?_; (focus (repeat' first | (with_reducible refine bel_refl ?_) | with_reducible assumption | with_reducible refine bel_drew ?_ | with_reducible refine bel_drewN _ ?_ | with_reducible refine bel_alloc _ ?_ | with_reducible refine bel_set ?_ _ ?_ | (with_reducible apply bel_call; with_reducible assumption) | with_reducible exact Nat.le_refl _ | omega | (simp; done) | (simp; omega))))⟩
  · have hd : decide (5000 < n) = false := by simpa using h5
    obtain ⟨s1, hs1, hs2⟩ := sync_law (s := s) hr (by omega)
    obtain ⟨l2, s2, hs3, hs4⟩ := crash_law (s := s) keep sp hr (by omega)
    have hS1 := Lib.hid hs1
    have hS2 := Lib.hid hs2
    have hS3 := Lib.hid hs3
    have hS4 := Lib.hid hs4
    clear hs1 hs2 hs3 hs4
    go_enter Try.func3, Try.ntmps3
    go_wp2_with fail
    have HK : Hid (∀ W : World, Bel (w.heap.size + 1) (w.alloc (.cells #[.slice A n c, .int .i64 s] 24)) W → W.cell? ⟨w.heap.size, 0, none⟩ = some (.slice A n c) ∧ W.cell? ⟨w.heap.size, 1, none⟩ = some (.int .i64 s)) := by
      intro W hW
      exact ⟨(hW.2.cell (p := ⟨w.heap.size, 0, none⟩) (by simp)).trans (by simp [go_sem]), (hW.2.cell (p := ⟨w.heap.size, 1, none⟩) (by simp)).trans (by simp [go_sem])⟩
    go_region_held3 (fun w' => w'.cell? ⟨w.heap.size, 0, none⟩ = some (.slice A n c) ∧ w'.cell? ⟨w.heap.size, 1, none⟩ = some (.int .i64 s))
      ((refine HK.out _ ?_; (focus (repeat' first | (with_reducible refine bel_refl ?_) | with_reducible assumption | with_reducible refine bel_drew ?_ | with_reducible refine bel_drewN _ ?_ | with_reducible refine bel_alloc _ ?_ | with_reducible refine bel_set ?_ _ ?_ | (with_reducible apply bel_call; with_reducible assumption) | with_reducible exact Nat.le_refl _ | omega | (simp; done) | (simp; omega))); done))
      (first
        | (go_at_call 10; refine (hA.out _ ?_).mono ?_; (refine bel_out ?_; (focus (repeat' first | (with_reducible refine bel_refl ?_) | with_reducible assumption | with_reducible refine bel_drew ?_ | with_reducible refine bel_drewN _ ?_ | with_reducible refine bel_alloc _ ?_ | with_reducible refine bel_set ?_ _ ?_ | (with_reducible apply bel_call; with_reducible assumption) | with_reducible exact Nat.le_refl _ | omega | (simp; done) | (simp; omega)))); rintro e w1 ⟨rfl, hb1⟩)
        | (go_at_call 12; refine (hS1.out _ ?_).mono ?_; (refine bel_out ?_; (focus (repeat' first | (with_reducible refine bel_refl ?_) | with_reducible assumption | with_reducible refine bel_drew ?_ | with_reducible refine bel_drewN _ ?_ | with_reducible refine bel_alloc _ ?_ | with_reducible refine bel_set ?_ _ ?_ | (with_reducible apply bel_call; with_reducible assumption) | with_reducible exact Nat.le_refl _ | omega | (simp; done) | (simp; omega)))); rintro e w2 ⟨v2, rfl, ⟨A2, n2, c2, rfl, hr2⟩, hb2⟩)
        | (go_at_call 13; refine (hS2.out _ ?_).mono ?_; (refine bel_out ?_; (focus (repeat' first | (with_reducible refine bel_refl ?_) | with_reducible assumption | with_reducible refine bel_drew ?_ | with_reducible refine bel_drewN _ ?_ | with_reducible refine bel_alloc _ ?_ | with_reducible refine bel_set ?_ _ ?_ | (with_reducible apply bel_call; with_reducible assumption) | with_reducible exact Nat.le_refl _ | omega | (simp; done) | (simp; omega)))); rintro e w3 ⟨v3, rfl, ⟨A3, n3, c3, rfl, hr3⟩, hb3⟩)
        | (go_at_call 14; refine (hS3.out _ ?_).mono ?_; (refine bel_out ?_; (focus (repeat' first | (with_reducible refine bel_refl ?_) | with_reducible assumption | with_reducible refine bel_drew ?_ | with_reducible refine bel_drewN _ ?_ | with_reducible refine bel_alloc _ ?_ | with_reducible refine bel_set ?_ _ ?_ | (with_reducible apply bel_call; with_reducible assumption) | with_reducible exact Nat.le_refl _ | omega | (simp; done) | (simp; omega)))); rintro e w4 ⟨v4, rfl, ⟨A4, n4, c4, rfl, hr4⟩, hb4⟩)
        | (go_at_call 15; refine (hS4.out _ ?_).mono ?_; (refine bel_out ?_; (focus (repeat' first | (with_reducible refine bel_refl ?_) | with_reducible assumption | with_reducible refine bel_drew ?_ | with_reducible refine bel_drewN _ ?_ | with_reducible refine bel_alloc _ ?_ | with_reducible refine bel_set ?_ _ ?_ | (with_reducible apply bel_call; with_reducible assumption) | with_reducible exact Nat.le_refl _ | omega | (simp; done) | (simp; omega)))); rintro e w5 ⟨v5, rfl, ⟨A5, n5, c5, rfl, hr5⟩, hb5⟩)
        | (go_at_call 11; (with_reducible refine (samedisk_true A2 n2 c2 A3 n3 c3 l s1 _ ?_ ?_).mono ?_); (focus exact hr2.below hb3); (focus exact hr3); rintro e w6 ⟨rfl, hb6⟩)
        | (go_at_call 11; (with_reducible refine (samedisk_true A4 n4 c4 A5 n5 c5 l2 s2 _ ?_ ?_).mono ?_); (focus exact hr4.below hb5); (focus exact hr5); rintro e w7 ⟨rfl, hb7⟩))
    go_wp2
    go_ret
    exact ⟨rfl, by (refine bel_out ?_; (focus (repeat' first | (with_reducible refine bel_refl ?_) | with_reducible assumption | with_reducible refine bel_drew ?_ | with_reducible refine bel_drewN _ ?_ | with_reducible refine bel_alloc _ ?_ | with_reducible refine bel_set ?_ _ ?_ | (with_reducible apply bel_call; with_reducible assumption) | with_reducible exact Nat.le_refl _ | omega | (simp; done) | (simp; omega))))⟩

end Go.Proofs.Ytdfmdciopeklhaa
