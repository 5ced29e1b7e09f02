/- Plain law of the tokens: places of the tokens; tags. -/
import Derived.Test.YtpcnfblpoepmbaaTP4
namespace Go.Proofs.Ytpcnfblpoepmbaa
set_option linter.unusedSimpArgs false
set_option linter.unusedVariables false

/-- where the k-th token begins -/
def pos (L : List Tok) (k : Nat) : Nat := match k with | 0 => 0 | k + 1 => ((L[k]?).map (·.2.2)).getD 0
theorem pos_succ {L : List Tok} {k : Nat} {x : Tok} (h : L[k]? = some x) : pos L (k + 1) = x.2.2 := by
  show ((L[k]?).map (·.2.2)).getD 0 = _
  rw [h]
  rfl
theorem chain_get : ∀ {L : List Tok} {a b : Nat}, Chain a L b → ∀ (k : Nat) (x : Tok), L[k]? = some x → x.2.1 = (match k with | 0 => a | k + 1 => ((L[k]?).map (·.2.2)).getD 0) ∧ x.2.1 < x.2.2 ∧ x.2.2 ≤ b ∧ 1 ≤ x.1 ∧ x.1 ≤ 12
  | [], a, b, h, k, x, hx => by simp at hx
  | y :: L, a, b, h, 0, x, hx => by
    simp at hx
    subst hx
    obtain ⟨h1, h2, h3, h4, h5, _⟩ := h
    exact ⟨h1, by omega, h3, h4, h5⟩
  | y :: L, a, b, h, k + 1, x, hx => by
    obtain ⟨h1, h2, h3, h4, h5, h6⟩ := h
    have ih := chain_get h6 k x (by simpa using hx)
    refine ⟨?_, ih.2⟩
    rw [ih.1]
    cases k with
    | zero => rfl
    | succ k => rfl
theorem chain_last : ∀ {L : List Tok} {a b : Nat}, Chain a L b → (match L.length with | 0 => a | k + 1 => ((L[k]?).map (·.2.2)).getD 0) = b
  | [], a, b, h => h
  | [y], a, b, h => by
    obtain ⟨_, _, _, _, _, h6⟩ := h
    exact h6
  | y :: z :: L, a, b, h => by
    obtain ⟨_, _, _, _, _, h6⟩ := h
    have ih := chain_last h6
    exact ih
theorem sc_at (l : List UInt8) {k : Nat} {x : Tok} (h : (SC l)[k]? = some x) : x.2.1 = pos (SC l) k ∧ x.2.1 < x.2.2 ∧ x.2.2 ≤ l.length ∧ 1 ≤ x.1 ∧ x.1 ≤ 12 := chain_get (SC_chain l) k x h
theorem sc_end (l : List UInt8) : pos (SC l) (SC l).length = l.length := chain_last (SC_chain l)
theorem sc_some (l : List UInt8) (h : l.length ≠ 0) : 0 < (SC l).length := by
  have h1 := sc_end l
  rcases Nat.eq_zero_or_pos (SC l).length with h2 | h2
  · rw [h2] at h1
    have : (0 : Nat) = l.length := h1
    omega
  · exact h2

/-- the tag of a text, at a kind of token -/
def tgO (x : List UInt8) : Nat := if x = o1 then 1 else if x = o2 then 2 else if x = o3 then 3 else 0
def tgC (x : List UInt8) : Nat := if x = c1 then 1 else if x = c2 then 2 else if x = c3 then 3 else 0
theorem tagO_eq (x : List UInt8) : (if (tagO x).2 = x.length then (tagO x).1 else 0) = tgO x := by
  rcases tagO_cases x with ⟨e, a1, a2, a3⟩ | ⟨a, e⟩ | ⟨a, e⟩ | ⟨a, e⟩
  · have n1 : x ≠ o1 := by rintro rfl; rw [pr_self] at a1; cases a1
    have n2 : x ≠ o2 := by rintro rfl; rw [pr_self] at a2; cases a2
    have n3 : x ≠ o3 := by rintro rfl; rw [pr_self] at a3; cases a3
    rw [e]
    unfold tgO
    rw [if_neg n1, if_neg n2, if_neg n3]
    split <;> rfl
  · rw [e]
    by_cases h : 11 = x.length
    · have := pr_full a h
      subst this
      decide
    · rw [if_neg h]
      have n1 : x ≠ o1 := by rintro rfl; exact h rfl
      have n2 : x ≠ o2 := by rintro rfl; exact absurd a (by decide)
      have n3 : x ≠ o3 := by rintro rfl; exact absurd a (by decide)
      unfold tgO
      rw [if_neg n1, if_neg n2, if_neg n3]
  · rw [e]
    by_cases h : 13 = x.length
    · have := pr_full a h
      subst this
      decide
    · rw [if_neg h]
      have n1 : x ≠ o1 := by rintro rfl; exact absurd a (by decide)
      have n2 : x ≠ o2 := by rintro rfl; exact h rfl
      have n3 : x ≠ o3 := by rintro rfl; exact absurd a (by decide)
      unfold tgO
      rw [if_neg n1, if_neg n2, if_neg n3]
  · rw [e]
    by_cases h : 13 = x.length
    · have := pr_full a h
      subst this
      decide
    · rw [if_neg h]
      have n1 : x ≠ o1 := by rintro rfl; exact absurd a (by decide)
      have n2 : x ≠ o2 := by rintro rfl; exact absurd a (by decide)
      have n3 : x ≠ o3 := by rintro rfl; exact h rfl
      unfold tgO
      rw [if_neg n1, if_neg n2, if_neg n3]
theorem tagC_eq (x : List UInt8) : (if (tagC x).2 = x.length then (tagC x).1 else 0) = tgC x := by
  rcases tagC_cases x with ⟨e, a1, a2, a3⟩ | ⟨a, e⟩ | ⟨a, e⟩ | ⟨a, e⟩
  · have n1 : x ≠ c1 := by rintro rfl; rw [pr_self] at a1; cases a1
    have n2 : x ≠ c2 := by rintro rfl; rw [pr_self] at a2; cases a2
    have n3 : x ≠ c3 := by rintro rfl; rw [pr_self] at a3; cases a3
    rw [e]
    unfold tgC
    rw [if_neg n1, if_neg n2, if_neg n3]
    split <;> rfl
  · rw [e]
    by_cases h : 12 = x.length
    · have := pr_full a h
      subst this
      decide
    · rw [if_neg h]
      have n1 : x ≠ c1 := by rintro rfl; exact h rfl
      have n2 : x ≠ c2 := by rintro rfl; exact absurd a (by decide)
      have n3 : x ≠ c3 := by rintro rfl; exact absurd a (by decide)
      unfold tgC
      rw [if_neg n1, if_neg n2, if_neg n3]
  · rw [e]
    by_cases h : 14 = x.length
    · have := pr_full a h
      subst this
      decide
    · rw [if_neg h]
      have n1 : x ≠ c1 := by rintro rfl; exact absurd a (by decide)
      have n2 : x ≠ c2 := by rintro rfl; exact h rfl
      have n3 : x ≠ c3 := by rintro rfl; exact absurd a (by decide)
      unfold tgC
      rw [if_neg n1, if_neg n2, if_neg n3]
  · rw [e]
    by_cases h : 14 = x.length
    · have := pr_full a h
      subst this
      decide
    · rw [if_neg h]
      have n1 : x ≠ c1 := by rintro rfl; exact absurd a (by decide)
      have n2 : x ≠ c2 := by rintro rfl; exact absurd a (by decide)
      have n3 : x ≠ c3 := by rintro rfl; exact h rfl
      unfold tgC
      rw [if_neg n1, if_neg n2, if_neg n3]
/-- what Tag returns -/
def TG (k : Int) (x : List UInt8) : Nat := if k = 11 then tgO x else if k = 12 then tgC x else 0
end Go.Proofs.Ytpcnfblpoepmbaa
