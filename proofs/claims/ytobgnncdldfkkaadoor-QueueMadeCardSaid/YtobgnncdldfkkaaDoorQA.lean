/- The walks of the small functions over jobs: good, bad, early, Empty. -/
import Derived.Test.YtobgnncdldfkkaaDoorQR
import Derived.Test.YtobgnncdldfkkaaDoorQ7
namespace Go.Proofs.YtobgnncdldfkkaaDoor
open Go.RowKit
set_option linter.unusedSimpArgs false
set_option linter.unusedVariables false

def isE (s : ByteArray) : Bool := s.toList.isEmpty
/-- a job is valid -/
def jv (a : Jb) : Bool := ((a.st == 1 && isE a.us) || a.st == 2) && tv a.sp a.nm
/-- a job does not have to wait -/
def je (a : Jb) : Bool := a.st != 2

/-- the cell of a package variable that the library reads -/
def Hm (m : Int) (w : World) : Prop := w.cell? ⟨0, 0, none⟩ = some (.int .i64 m) ∧ 0 < w.heap.size
theorem Hm.below {m : Int} {w w' : World} (h : Hm m w) (hb : Below w.heap.size w w') : Hm m w' := ⟨(hb.cell (p := ⟨0, 0, none⟩) h.2).trans h.1, Nat.lt_of_lt_of_le h.2 hb.size⟩

set_option maxHeartbeats 4000000 in
theorem early_any (a : Jb) (w : World) : Calls Tryd.prog 39 #[a.val] w fun e w' => e = .returned (.bool (je a)) ∧ Below w.heap.size w w' := by
  obtain ⟨st, us, sp, nm⟩ := a
  unfold Jb.val je
  go_enter Tryd.func39, Tryd.ntmps39
  go_wp2
  go_ret
  exact ⟨by rfl, by (refine bel_out ?_; (focus (repeat' first | (with_reducible refine bel_refl ?_) | with_reducible assumption | with_reducible refine bel_drew ?_ | with_reducible refine bel_drewN _ ?_ | with_reducible refine bel_alloc _ ?_ | with_reducible refine bel_set ?_ _ ?_ | (with_reducible apply bel_call; with_reducible assumption) | (with_reducible apply bel_owg; with_reducible assumption; (focus omega)) | with_reducible exact Nat.le_refl _ | omega | (simp; done) | (simp; omega))))⟩

set_option maxRecDepth 100000 in
set_option maxHeartbeats 4000000 in
theorem good_any (a : Jb) (m : Int) (w : World) (hm : Hm m w) : Calls Tryd.prog 45 #[a.val] w fun e w' => e = .returned (.bool (jv a)) ∧ Below w.heap.size w w' := by
  obtain ⟨st, us, sp, nm⟩ := a
  have HT := Lib.hid fun (W : World) (h : Hm m W) => title_any sp nm m W h.1 h.2
  have HM := Lib.hid hm
  unfold Jb.val
  have HJ : Hid (jv ⟨st, us, sp, nm⟩ = (((st == 1 && isE us) || st == 2) && tv sp nm)) := Lib.hid rfl
  unfold isE at HJ
  generalize jv ⟨st, us, sp, nm⟩ = r at *
  generalize tv sp nm = t at *
  have CT : True := trivial
  by_cases h1 : st = 1
  · subst h1
    cases he : us.toList.isEmpty with
    | true =>
      have he2 : us.toList = [] := by simpa using he
      rw [he] at HJ
      go_enter Tryd.func45, Tryd.ntmps45
      go_wp2_with (go_at_call 50; refine (HT.out _ (HM.out.below ?_)).mono ?_; (focus (refine bel_out ?_; (focus (repeat' first | (with_reducible refine bel_refl ?_) | with_reducible assumption | with_reducible refine bel_drew ?_ | with_reducible refine bel_drewN _ ?_ | with_reducible refine bel_alloc _ ?_ | with_reducible refine bel_set ?_ _ ?_ | (with_reducible apply bel_call; with_reducible assumption) | (with_reducible apply bel_owg; with_reducible assumption; (focus omega)) | with_reducible exact Nat.le_refl _ | omega | (simp; done) | (simp; omega))))); rintro e w1 ⟨rfl, hb1⟩)
      go_ret
      exact ⟨by rw [HJ.out]; rfl, by (refine bel_out ?_; (focus (repeat' first | (with_reducible refine bel_refl ?_) | with_reducible assumption | with_reducible refine bel_drew ?_ | with_reducible refine bel_drewN _ ?_ | with_reducible refine bel_alloc _ ?_ | with_reducible refine bel_set ?_ _ ?_ | (with_reducible apply bel_call; with_reducible assumption) | (with_reducible apply bel_owg; with_reducible assumption; (focus omega)) | with_reducible exact Nat.le_refl _ | omega | (simp; done) | (simp; omega))))⟩
    | false =>
      have he2 : ¬ us.toList = [] := by simpa using he
      rw [he] at HJ
      go_enter Tryd.func45, Tryd.ntmps45
      go_wp2_with fail
      go_ret
      exact ⟨by rw [HJ.out]; rfl, by (refine bel_out ?_; (focus (repeat' first | (with_reducible refine bel_refl ?_) | with_reducible assumption | with_reducible refine bel_drew ?_ | with_reducible refine bel_drewN _ ?_ | with_reducible refine bel_alloc _ ?_ | with_reducible refine bel_set ?_ _ ?_ | (with_reducible apply bel_call; with_reducible assumption) | (with_reducible apply bel_owg; with_reducible assumption; (focus omega)) | with_reducible exact Nat.le_refl _ | omega | (simp; done) | (simp; omega))))⟩
  · have q1 : (st == 1) = false := by simpa using h1
    by_cases h2 : st = 2
    · subst h2
      go_enter Tryd.func45, Tryd.ntmps45
      go_wp2_with (go_at_call 50; refine (HT.out _ (HM.out.below ?_)).mono ?_; (focus (refine bel_out ?_; (focus (repeat' first | (with_reducible refine bel_refl ?_) | with_reducible assumption | with_reducible refine bel_drew ?_ | with_reducible refine bel_drewN _ ?_ | with_reducible refine bel_alloc _ ?_ | with_reducible refine bel_set ?_ _ ?_ | (with_reducible apply bel_call; with_reducible assumption) | (with_reducible apply bel_owg; with_reducible assumption; (focus omega)) | with_reducible exact Nat.le_refl _ | omega | (simp; done) | (simp; omega))))); rintro e w1 ⟨rfl, hb1⟩)
      go_ret
      exact ⟨by rw [HJ.out]; rfl, by (refine bel_out ?_; (focus (repeat' first | (with_reducible refine bel_refl ?_) | with_reducible assumption | with_reducible refine bel_drew ?_ | with_reducible refine bel_drewN _ ?_ | with_reducible refine bel_alloc _ ?_ | with_reducible refine bel_set ?_ _ ?_ | (with_reducible apply bel_call; with_reducible assumption) | (with_reducible apply bel_owg; with_reducible assumption; (focus omega)) | with_reducible exact Nat.le_refl _ | omega | (simp; done) | (simp; omega))))⟩
    · have q2 : (st == 2) = false := by simpa using h2
      rw [q1, q2] at HJ
      go_enter Tryd.func45, Tryd.ntmps45
      go_wp2_with fail
      go_ret
      exact ⟨by rw [HJ.out]; rfl, by (refine bel_out ?_; (focus (repeat' first | (with_reducible refine bel_refl ?_) | with_reducible assumption | with_reducible refine bel_drew ?_ | with_reducible refine bel_drewN _ ?_ | with_reducible refine bel_alloc _ ?_ | with_reducible refine bel_set ?_ _ ?_ | (with_reducible apply bel_call; with_reducible assumption) | (with_reducible apply bel_owg; with_reducible assumption; (focus omega)) | with_reducible exact Nat.le_refl _ | omega | (simp; done) | (simp; omega))))⟩

theorem bad_any (a : Jb) (m : Int) (w : World) (hm : Hm m w) : Calls Tryd.prog 36 #[a.val] w fun e w' => e = .returned (.bool (!jv a)) ∧ Below w.heap.size w w' := by
  have HG := Lib.hid fun (W : World) (h : Hm m W) => good_any a m W h
  have HM := Lib.hid hm
  obtain ⟨st, us, sp, nm⟩ := a
  generalize jv ⟨st, us, sp, nm⟩ = r at *
  unfold Jb.val at *
  simp only [] at HG
  go_enter Tryd.func36, Tryd.ntmps36
  go_wp2_with (go_at_call 45; refine (HG.out _ (HM.out.below ?_)).mono ?_; (focus (refine bel_out ?_; (focus (repeat' first | (with_reducible refine bel_refl ?_) | with_reducible assumption | with_reducible refine bel_drew ?_ | with_reducible refine bel_drewN _ ?_ | with_reducible refine bel_alloc _ ?_ | with_reducible refine bel_set ?_ _ ?_ | (with_reducible apply bel_call; with_reducible assumption) | (with_reducible apply bel_owg; with_reducible assumption; (focus omega)) | with_reducible exact Nat.le_refl _ | omega | (simp; done) | (simp; omega))))); rintro e w1 ⟨rfl, hb1⟩)
  go_ret
  exact ⟨by rfl, by (refine bel_out ?_; (focus (repeat' first | (with_reducible refine bel_refl ?_) | with_reducible assumption | with_reducible refine bel_drew ?_ | with_reducible refine bel_drewN _ ?_ | with_reducible refine bel_alloc _ ?_ | with_reducible refine bel_set ?_ _ ?_ | (with_reducible apply bel_call; with_reducible assumption) | (with_reducible apply bel_owg; with_reducible assumption; (focus omega)) | with_reducible exact Nat.le_refl _ | omega | (simp; done) | (simp; omega))))⟩

theorem empty_any (A B : Option Addr) (n c m d : Nat) (w : World) : Calls Tryd.prog 25 #[.agg #[.slice A n c, .slice B m d]] w fun e w' => e = .returned (.bool (n == 0 && m == 0)) ∧ Below w.heap.size w w' := by
  have HE : ∀ k : Nat, ((k : Int) == 0) = (k == 0) := fun k => by
    cases k with
    | zero => rfl
    | succ k => simp; omega
  have e1 := HE n
  have e2 := HE m
  generalize (n == 0) = x at *
  generalize (m == 0) = y at *
  clear HE
  cases x <;> cases y <;>
  (go_enter Tryd.func25, Tryd.ntmps25
   go_wp2
   go_ret
   exact ⟨by rfl, by (refine bel_out ?_; (focus (repeat' first | (with_reducible refine bel_refl ?_) | with_reducible assumption | with_reducible refine bel_drew ?_ | with_reducible refine bel_drewN _ ?_ | with_reducible refine bel_alloc _ ?_ | with_reducible refine bel_set ?_ _ ?_ | (with_reducible apply bel_call; with_reducible assumption) | (with_reducible apply bel_owg; with_reducible assumption; (focus omega)) | with_reducible exact Nat.le_refl _ | omega | (simp; done) | (simp; omega))))⟩)
theorem rempty_any (A B : Option Addr) (n c m d : Nat) (w : World) : Calls Tryd.prog 32 #[.agg #[.slice A n c, .slice B m d]] w fun e w' => e = .returned (.bool (n == 0 && m == 0)) ∧ Below w.heap.size w w' := by
  have HE : ∀ k : Nat, ((k : Int) == 0) = (k == 0) := fun k => by
    cases k with
    | zero => rfl
    | succ k => simp; omega
  have e1 := HE n
  have e2 := HE m
  generalize (n == 0) = x at *
  generalize (m == 0) = y at *
  clear HE
  cases x <;> cases y <;>
  (go_enter Tryd.func32, Tryd.ntmps32
   go_wp2
   go_ret
   exact ⟨by rfl, by (refine bel_out ?_; (focus (repeat' first | (with_reducible refine bel_refl ?_) | with_reducible assumption | with_reducible refine bel_drew ?_ | with_reducible refine bel_drewN _ ?_ | with_reducible refine bel_alloc _ ?_ | with_reducible refine bel_set ?_ _ ?_ | (with_reducible apply bel_call; with_reducible assumption) | (with_reducible apply bel_owg; with_reducible assumption; (focus omega)) | with_reducible exact Nat.le_refl _ | omega | (simp; done) | (simp; omega))))⟩)
end Go.Proofs.YtobgnncdldfkkaaDoor
