/- A drawn region of fifteen operations: three calls in a row, three allocs, in any order between them; then three stores. -/
import Derived.Deep.RegionHeld3
namespace Go.Proofs.YtobgnncdldfkkaaDoor
open Go
set_option linter.unusedSimpArgs false
set_option linter.unusedVariables false

def gL (c : Nat) (b9 b10 b11 : Bool) : Array Bool := #[true, true, decide (0 < c), true, true, decide (1 < c), true, true, decide (2 < c), b9, b10, b11, false, false, false]
def gR (c : Nat) (b9 b10 b11 : Bool) : List Nat := (match c with | 0 => [2] | 1 => [5] | 2 => [8] | _ => []) ++ (if b9 then [] else [9]) ++ (if b10 then [] else [10]) ++ (if b11 then [] else [11])
def gB (ops : Array Oper) : Bool := [0, 1, 2, 3].all fun c => [true, false].all fun b9 => [true, false].all fun b10 => [true, false].all fun b11 => (c == 3 && b9 && b10 && b11) || Region.ready .any ops (gL c b9 b10 b11) == gR c b9 b10 b11
def gm (c : Nat) (b9 b10 b11 : Bool) : Nat := (3 - c) + (if b9 then 0 else 1) + (if b10 then 0 else 1) + (if b11 then 0 else 1)

section
variable {P : Program} {ops : Array Oper} {Q : Exit → Act → World → Prop} {S : World → Prop}
theorem wpOp_shut {i : Nat} {o : Oper} {K : Act → World → Prop} {a : Act} {w : World} (ho : ops[i]? = some o)
    (h : ∀ K' : Act → World → Prop, Shut (∀ a w, K a w → K' a w) → if Region.wanted o (yielded ops a.tmps) = true then Oper.wp P o a w K' Q else K' (a.put o.dst undef) w) : wpOp P ops Q i K a w := wpOp_step ho h
theorem wpAnyH_name {fuel : Nat} {listed : Array Bool} {a : Act} {w : World} (h : ∀ a0 : Act, a0 = a → wpAnyH P .any ops Q S fuel listed a0 w) : wpAnyH P .any ops Q S fuel listed a w := h a rfl
theorem gB_ready (hg : gB ops = true) {c : Nat} (hc : c ≤ 3) (b9 b10 b11 : Bool) (hn : gm c b9 b10 b11 ≠ 0) : Region.ready .any ops (gL c b9 b10 b11) = gR c b9 b10 b11 := by
  have hm : ∀ b : Bool, b ∈ [true, false] := fun b => by cases b <;> simp
  have hcm : c ∈ [0, 1, 2, 3] := by
    have : c = 0 ∨ c = 1 ∨ c = 2 ∨ c = 3 := by omega
    rcases this with rfl | rfl | rfl | rfl <;> simp
  have h := List.all_eq_true.1 (List.all_eq_true.1 (List.all_eq_true.1 (List.all_eq_true.1 hg c hcm) b9 (hm _)) b10 (hm _)) b11 (hm _)
  rcases Bool.or_eq_true_iff.1 h with h | h
  · exfalso
    apply hn
    simp only [Bool.and_eq_true, beq_iff_eq] at h
    obtain ⟨⟨⟨rfl, rfl⟩, rfl⟩, rfl⟩ := h
    rfl
  · exact eq_of_beq h
theorem wpAnyH_grid (hg : gB ops = true) (Inv : Nat → Bool → Bool → Bool → Act → World → Prop) (R : Nat)
    (h2 : ∀ b9 b10 b11 a w, Inv 0 b9 b10 b11 a w → wpOp P ops Q 2 (fun a' w' => S w' ∧ Inv 1 b9 b10 b11 a' w') a w)
    (h5 : ∀ b9 b10 b11 a w, Inv 1 b9 b10 b11 a w → wpOp P ops Q 5 (fun a' w' => S w' ∧ Inv 2 b9 b10 b11 a' w') a w)
    (h8 : ∀ b9 b10 b11 a w, Inv 2 b9 b10 b11 a w → wpOp P ops Q 8 (fun a' w' => S w' ∧ Inv 3 b9 b10 b11 a' w') a w)
    (h9 : ∀ c b10 b11 a w, Inv c false b10 b11 a w → wpOp P ops Q 9 (fun a' w' => S w' ∧ Inv c true b10 b11 a' w') a w)
    (h10 : ∀ c b9 b11 a w, Inv c b9 false b11 a w → wpOp P ops Q 10 (fun a' w' => S w' ∧ Inv c b9 true b11 a' w') a w)
    (h11 : ∀ c b9 b10 a w, Inv c b9 b10 false a w → wpOp P ops Q 11 (fun a' w' => S w' ∧ Inv c b9 b10 true a' w') a w)
    (hfin : ∀ a w, Inv 3 true true true a w → wpAnyH P .any ops Q S R (gL 3 true true true) a w) :
    ∀ k c b9 b10 b11 a w, c ≤ 3 → gm c b9 b10 b11 = k → Inv c b9 b10 b11 a w → wpAnyH P .any ops Q S (R + k) (gL c b9 b10 b11) a w := by
  intro k
  induction k with
  | zero =>
    intro c b9 b10 b11 a w hc hk hI
    have : c = 3 ∧ b9 = true ∧ b10 = true ∧ b11 = true := by
      unfold gm at hk
      cases b9 <;> cases b10 <;> cases b11 <;> simp at hk ⊢ <;> omega
    obtain ⟨rfl, rfl, rfl, rfl⟩ := this
    exact hfin a w hI
  | succ k ih =>
    intro c b9 b10 b11 a w hc hk hI
    have hr := gB_ready hg hc b9 b10 b11 (by omega)
    have hstep : ∀ i ∈ gR c b9 b10 b11, wpOp P ops Q i (fun a' w' => S w' ∧ wpAnyH P .any ops Q S (R + k) ((gL c b9 b10 b11).setIfInBounds i true) a' w') a w := by
      intro i hi
      unfold gR at hi
      rw [List.mem_append, List.mem_append, List.mem_append] at hi
      rcases hi with ((hi | hi) | hi) | hi
      · have : c = 0 ∨ c = 1 ∨ c = 2 ∨ c = 3 := by omega
        rcases this with rfl | rfl | rfl | rfl
        · simp only [List.mem_singleton] at hi; subst hi
          exact wpOp_mono (fun a' w' h => ⟨h.1, ih 1 b9 b10 b11 a' w' (by omega) (by unfold gm at hk ⊢; omega) h.2⟩) (h2 b9 b10 b11 a w hI)
        · simp only [List.mem_singleton] at hi; subst hi
          exact wpOp_mono (fun a' w' h => ⟨h.1, ih 2 b9 b10 b11 a' w' (by omega) (by unfold gm at hk ⊢; omega) h.2⟩) (h5 b9 b10 b11 a w hI)
        · simp only [List.mem_singleton] at hi; subst hi
          exact wpOp_mono (fun a' w' h => ⟨h.1, ih 3 b9 b10 b11 a' w' (by omega) (by unfold gm at hk ⊢; omega) h.2⟩) (h8 b9 b10 b11 a w hI)
        · simp at hi
      · cases b9 with
        | true => simp at hi
        | false =>
          simp only [Bool.false_eq_true, if_false, List.mem_singleton] at hi; subst hi
          exact wpOp_mono (fun a' w' h => ⟨h.1, ih c true b10 b11 a' w' hc (by unfold gm at hk ⊢; simp only [Bool.false_eq_true, if_false, if_true] at hk ⊢; omega) h.2⟩) (h9 c b10 b11 a w hI)
      · cases b10 with
        | true => simp at hi
        | false =>
          simp only [Bool.false_eq_true, if_false, List.mem_singleton] at hi; subst hi
          exact wpOp_mono (fun a' w' h => ⟨h.1, ih c b9 true b11 a' w' hc (by unfold gm at hk ⊢; simp only [Bool.false_eq_true, if_false, if_true] at hk ⊢; omega) h.2⟩) (h10 c b9 b11 a w hI)
      · cases b11 with
        | true => simp at hi
        | false =>
          simp only [Bool.false_eq_true, if_false, List.mem_singleton] at hi; subst hi
          exact wpOp_mono (fun a' w' h => ⟨h.1, ih c b9 b10 true a' w' hc (by unfold gm at hk ⊢; simp only [Bool.false_eq_true, if_false, if_true] at hk ⊢; omega) h.2⟩) (h11 c b9 b10 a w hI)
    have hne : gR c b9 b10 b11 ≠ [] := by
      have : c = 0 ∨ c = 1 ∨ c = 2 ∨ c = 3 := by omega
      rcases this with rfl | rfl | rfl | rfl <;> cases b9 <;> cases b10 <;> cases b11 <;> first | (simp [gR]; done) | (exfalso; simp [gm] at hk)
    exact wpAnyH_all hr hne hstep
theorem wpAnyH_grid0 (hg : gB ops = true) (Inv : Nat → Bool → Bool → Bool → Act → World → Prop) {fuel : Nat} {listed : Array Bool} {a : Act} {w : World} (hf : fuel = 9) (hl : listed = gL 0 false false false)
    (h2 : ∀ b9 b10 b11 a w, Inv 0 b9 b10 b11 a w → wpOp P ops Q 2 (fun a' w' => S w' ∧ Inv 1 b9 b10 b11 a' w') a w)
    (h5 : ∀ b9 b10 b11 a w, Inv 1 b9 b10 b11 a w → wpOp P ops Q 5 (fun a' w' => S w' ∧ Inv 2 b9 b10 b11 a' w') a w)
    (h8 : ∀ b9 b10 b11 a w, Inv 2 b9 b10 b11 a w → wpOp P ops Q 8 (fun a' w' => S w' ∧ Inv 3 b9 b10 b11 a' w') a w)
    (h9 : ∀ c b10 b11 a w, Inv c false b10 b11 a w → wpOp P ops Q 9 (fun a' w' => S w' ∧ Inv c true b10 b11 a' w') a w)
    (h10 : ∀ c b9 b11 a w, Inv c b9 false b11 a w → wpOp P ops Q 10 (fun a' w' => S w' ∧ Inv c b9 true b11 a' w') a w)
    (h11 : ∀ c b9 b10 a w, Inv c b9 b10 false a w → wpOp P ops Q 11 (fun a' w' => S w' ∧ Inv c b9 b10 true a' w') a w)
    (hI : Inv 0 false false false a w)
    (hfin : ∀ a w, Inv 3 true true true a w → wpAnyH P .any ops Q S 3 (gL 3 true true true) a w) : wpAnyH P .any ops Q S fuel listed a w := by
  subst hf hl
  exact wpAnyH_grid hg Inv 3 h2 h5 h8 h9 h10 h11 hfin 6 0 false false false a w (by omega) rfl hI
end
end Go.Proofs.YtobgnncdldfkkaaDoor
