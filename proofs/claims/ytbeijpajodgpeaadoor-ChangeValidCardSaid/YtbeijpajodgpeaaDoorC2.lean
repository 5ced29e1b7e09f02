/- The walks of uses, formed, bounds. -/
import Derived.Test.YtbeijpajodgpeaaDoorC1
import Derived.Test.YtbeijpajodgpeaaDoorWords3
namespace Go.Proofs.YtbeijpajodgpeaaDoor
open Go.RowKit
set_option linter.unusedSimpArgs false
set_option linter.unusedVariables false

/-- the fields of a kind -/
def usesF (k : Int) : Value := .agg #[.bool (fU k), .bool (fN k), .bool (fT k), .bool (fO k), .bool (fN k), .bool (fK k), .bool (fH k)]
theorem kinds {k : Int} (h : 1 ≤ k ∧ k ≤ 10) : k = 1 ∨ k = 2 ∨ k = 3 ∨ k = 4 ∨ k = 5 ∨ k = 6 ∨ k = 7 ∨ k = 8 ∨ k = 9 ∨ k = 10 := by omega
theorem usesF_no {k : Int} (h : ¬ (1 ≤ k ∧ k ≤ 10)) : usesF k = .agg #[.bool false, .bool false, .bool false, .bool false, .bool false, .bool false, .bool false] := by
  unfold usesF fU fN fT fO fK fH
  rw [decide_eq_false (p := 1 ≤ k ∧ k ≤ 10 ∧ k ≠ 6) (by omega), decide_eq_false (p := k = 1 ∨ k = 9) (by omega), decide_eq_false (p := 1 ≤ k ∧ k ≤ 9 ∧ k ≠ 6) (by omega), decide_eq_false (p := k = 4) (by omega), decide_eq_false (p := k = 4 ∨ k = 6 ∨ k = 9 ∨ k = 10) (by omega), decide_eq_false (p := k = 5) (by omega)]
set_option maxRecDepth 100000 in
set_option maxHeartbeats 4000000 in
theorem uses_any (k : Int) (w : World) :
    Calls Tryd.prog 30 #[.int .i64 k] w fun e w' => e = .returned (.tuple #[usesF k, .bool (fV k)]) ∧ Below w.heap.size w w' := by
  by_cases h : 1 ≤ k ∧ k ≤ 10
  · rcases kinds h with rfl | rfl | rfl | rfl | rfl | rfl | rfl | rfl | rfl | rfl
    all_goals
      clear h
      go_enter Tryd.func30, Tryd.ntmps30
      go_wp2
      refine bodyPost_ret (by simp [results, Tryd.results30, go_sem]; rfl) rfl ⟨by rfl, ?_⟩
      (refine bel_out ?_; (focus (repeat' first | (with_reducible refine bel_refl ?_) | with_reducible assumption | with_reducible refine bel_drew ?_ | with_reducible refine bel_drewN _ ?_ | with_reducible refine bel_alloc _ ?_ | with_reducible refine bel_set ?_ _ ?_ | (with_reducible apply bel_call; with_reducible assumption) | (with_reducible apply bel_owg; with_reducible assumption; (focus omega)) | with_reducible exact Nat.le_refl _ | omega | (simp; done) | (simp; omega))))
  · have HU := Lib.hid (usesF_no h)
    have HV : Hid (fV k = false) := Lib.hid (decide_eq_false h)
    have e1 : (k == 1) = false := by simp; omega
    have e2 : (k == 2) = false := by simp; omega
    have e3 : (k == 3) = false := by simp; omega
    have e4 : (k == 4) = false := by simp; omega
    have e5 : (k == 5) = false := by simp; omega
    have e6 : (k == 6) = false := by simp; omega
    have e7 : (k == 7) = false := by simp; omega
    have e8 : (k == 8) = false := by simp; omega
    have e9 : (k == 9) = false := by simp; omega
    have e10 : (k == 10) = false := by simp; omega
    clear h
    go_enter Tryd.func30, Tryd.ntmps30
    go_wp2
    refine bodyPost_ret (v := .tuple #[.agg #[.bool false, .bool false, .bool false, .bool false, .bool false, .bool false, .bool false], .bool false]) (by simp [results, Tryd.results30, go_sem]) rfl ⟨by rw [HU.out, HV.out], ?_⟩
    (refine bel_out ?_; (focus (repeat' first | (with_reducible refine bel_refl ?_) | with_reducible assumption | with_reducible refine bel_drew ?_ | with_reducible refine bel_drewN _ ?_ | with_reducible refine bel_alloc _ ?_ | with_reducible refine bel_set ?_ _ ?_ | (with_reducible apply bel_call; with_reducible assumption) | (with_reducible apply bel_owg; with_reducible assumption; (focus omega)) | with_reducible exact Nat.le_refl _ | omega | (simp; done) | (simp; omega))))
set_option maxHeartbeats 4000000 in
theorem bounds_any (k : Int) (w : World) :
    Calls Tryd.prog 50 #[.int .i64 k] w fun e w' => e = .returned (.tuple #[.int .i64 (loB k), .int .i64 (hiB k)]) ∧ w = w' := by
  by_cases h4 : k = 4
  · subst h4
    go_enter Tryd.func50, Tryd.ntmps50
    go_wp2
    go_ret2
    exact ⟨by rfl, rfl⟩
  by_cases h6 : k = 6
  · subst h6
    go_enter Tryd.func50, Tryd.ntmps50
    go_wp2
    go_ret2
    exact ⟨by rfl, rfl⟩
  by_cases h9 : k = 9
  · subst h9
    go_enter Tryd.func50, Tryd.ntmps50
    go_wp2
    go_ret2
    exact ⟨by rfl, rfl⟩
  have HL : Hid (loB k = 1 ∧ hiB k = 1073741824) := Lib.hid (by unfold loB hiB; rw [if_neg h4, if_neg h6, if_neg h9, if_neg h4, if_neg h6, if_neg h9]; exact ⟨rfl, rfl⟩)
  have e4 : (k == 4) = false := by simpa using h4
  have e6 : (k == 6) = false := by simpa using h6
  have e9 : (k == 9) = false := by simpa using h9
  clear h4 h6 h9
  go_enter Tryd.func50, Tryd.ntmps50
  go_wp2
  go_ret2
  exact ⟨by rw [HL.out.1, HL.out.2]; rfl, rfl⟩
/-- a change as a value -/
def cval (c : Cg) (A : Option Addr) (n cp : Nat) : Value := .agg #[.int .i64 c.kd, .string c.us, .string c.nt, .int .i64 c.ts, .string c.tn, .int .i64 c.os, .string c.on, .string c.tx, .int .i64 c.n, .slice A n cp]
end Go.Proofs.YtbeijpajodgpeaaDoor
