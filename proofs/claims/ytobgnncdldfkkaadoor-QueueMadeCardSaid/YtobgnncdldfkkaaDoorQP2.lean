/- The plain law of queues: Add, Take, Done, Back, Valid. -/
import Derived.Test.YtobgnncdldfkkaaDoorQA
import Derived.Test.YtobgnncdldfkkaaDoorQB
namespace Go.Proofs.YtobgnncdldfkkaaDoor
open Go.RowKit
set_option linter.unusedSimpArgs false
set_option linter.unusedVariables false

/-- the place of a job, or -1 -/
def jIdx (j : Jb) (L : List Jb) : Int := fIdx (fun a => decide (j = a)) L
/-- the place of the first early job, or -1 -/
def eIdx (L : List Jb) : Int := fIdx (fun a => je a) L
/-- what Add makes of the list that waits -/
def addL (W : List Jb) (j : Jb) : List Jb := if j ∈ W then W else W ++ [j]
/-- what Done makes of the list that is taken -/
def doneL (T : List Jb) (j : Jb) : List Jb := if 0 ≤ jIdx j T then T.eraseIdx (jIdx j T).toNat else T
/-- the place that Take takes, or none -/
def tkAt (W T : List Jb) : Option Nat :=
  if 0 ≤ eIdx W then some (eIdx W).toNat else if W = [] ∨ T.any (fun a => je a) = true then none else some 0
def tkW (W T : List Jb) : List Jb := match tkAt W T with | some i => W.eraseIdx i | none => W
def tkT (W T : List Jb) : List Jb := match tkAt W T with | some i => T ++ [W.getD i jb0] | none => T
def tkJ (W T : List Jb) : Jb := match tkAt W T with | some i => W.getD i jb0 | none => jb0
def tkOk (W T : List Jb) : Bool := (tkAt W T).isSome
/-- a queue is valid -/
def qv (W T : List Jb) : Bool := W.all jv && T.all jv && decide W.Nodup

theorem fIdx_range (P : Jb → Bool) (L : List Jb) : (fIdx P L = -1 ∧ L.any P = false) ∨ ∃ i : Nat, fIdx P L = i ∧ i < L.length ∧ P (L.getD i jb0) = true ∧ ∀ k, k < i → P (L.getD k jb0) = false := by
  unfold fIdx
  cases e : L.findIdx? P with
  | none =>
    left
    refine ⟨rfl, ?_⟩
    rw [List.any_eq_false]
    intro x hx
    simpa using List.findIdx?_eq_none_iff.1 e x hx
  | some i =>
    right
    obtain ⟨h1, h2, h3⟩ := List.findIdx?_eq_some_iff_getElem.1 e
    refine ⟨i, rfl, h1, by simpa [List.getD, List.getElem?_eq_getElem h1] using h2, fun k hk => ?_⟩
    have hkl : k < L.length := by omega
    have := h3 k hk
    simpa [List.getD, List.getElem?_eq_getElem hkl] using this
theorem jIdx_range (j : Jb) (L : List Jb) : (jIdx j L = -1 ∧ j ∉ L) ∨ ∃ i : Nat, jIdx j L = i ∧ i < L.length ∧ L.getD i jb0 = j ∧ j ∈ L := by
  rcases fIdx_range (fun a => decide (j = a)) L with ⟨h1, h2⟩ | ⟨i, h1, h2, h3, _⟩
  · left
    refine ⟨h1, fun h => ?_⟩
    have := List.any_eq_false.1 h2 j h
    simp at this
  · right
    have h4 : L.getD i jb0 = j := (of_decide_eq_true h3).symm
    refine ⟨i, h1, h2, h4, ?_⟩
    rw [← h4]
    simp [List.getD, List.getElem?_eq_getElem h2]
theorem tkAt_lt {W T : List Jb} {i : Nat} (h : tkAt W T = some i) : i < W.length := by
  unfold tkAt at h
  rcases fIdx_range (fun a => je a) W with ⟨h1, _⟩ | ⟨k, h1, h2, _⟩
  · rw [if_neg (by unfold eIdx; omega)] at h
    split at h
    · cases h
    · rename_i h3
      injection h with h
      subst h
      have : W ≠ [] := fun e => h3 (.inl e)
      exact List.length_pos_iff.2 this
  · rw [if_pos (by unfold eIdx; omega)] at h
    injection h with h
    unfold eIdx at h
    omega
theorem addL_length (W : List Jb) (j : Jb) : (addL W j).length ≤ W.length + 1 := by
  unfold addL; split <;> simp
theorem doneL_length (T : List Jb) (j : Jb) : (doneL T j).length ≤ T.length := by
  unfold doneL; split
  · exact List.length_eraseIdx_le _ _
  · exact Nat.le_refl _
theorem tkW_length (W T : List Jb) : (tkW W T).length ≤ W.length := by
  unfold tkW; split
  · exact List.length_eraseIdx_le _ _
  · exact Nat.le_refl _
theorem tkT_length (W T : List Jb) : (tkT W T).length ≤ T.length + 1 := by
  unfold tkT; split <;> simp
end Go.Proofs.YtobgnncdldfkkaaDoor
