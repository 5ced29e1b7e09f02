/- Plain law of the tokens: the first token, asked in the reference's order. -/
import Derived.Test.YtpcnfblpoepmbaaTP3
namespace Go.Proofs.Ytpcnfblpoepmbaa
set_option linter.unusedSimpArgs false
set_option linter.unusedVariables false

theorem pr2_iff (a : UInt8) (u : List UInt8) : pr [a, a] u = decide (2 ≤ runL a u) := by
  cases u with
  | nil => simp [pr, runL]
  | cons c u =>
    cases u with
    | nil =>
      by_cases h : a = c
      · subst h; simp [pr, runL, List.isPrefixOf]
      · have h' : ¬ c = a := fun e => h e.symm
        simp [pr, runL, List.isPrefixOf, h, h']
    | cons d u =>
      by_cases h : a = c
      · subst h
        by_cases h2 : a = d
        · subst h2; simp [pr, runL, List.isPrefixOf]
        · have h2' : ¬ d = a := fun e => h2 e.symm
          simp [pr, runL, List.isPrefixOf, h2, h2']
      · have h' : ¬ c = a := fun e => h e.symm
        simp [pr, runL, List.isPrefixOf, h, h']
theorem pr_head {p : List UInt8} {a c : UInt8} {u : List UInt8} (h : ¬ a = c) : pr (a :: p) (c :: u) = false := by
  simp [pr, List.isPrefixOf, h]
theorem pr1_iff (a c : UInt8) (u : List UInt8) : pr [a] (c :: u) = decide (a = c) := by
  by_cases h : a = c
  · subst h; simp [pr, List.isPrefixOf]
  · simp [pr, List.isPrefixOf, h]
theorem runL_head {a c : UInt8} {u : List UInt8} (h : ¬ c = a) : runL a (c :: u) = 0 := by rw [runL, if_neg h]
theorem ANG_bools (u : List UInt8) : ANG u =
    if pr sCm u then (9, if Lib.index (u.drop 4) sCe < 0 then u.length else 4 + (Lib.index (u.drop 4) sCe).toNat + 3)
    else if pr sNo u = true ∧ 0 ≤ Lib.index (u.drop 8) sNe then (10, 8 + (Lib.index (u.drop 8) sNe).toNat + 9)
    else if pr o1 u then (11, 11) else if pr c1 u then (12, 12) else if pr o2 u then (11, 13) else if pr c2 u then (12, 14) else if pr o3 u then (11, 13) else if pr c3 u then (12, 14) else (0, 0) := by
  unfold ANG
  by_cases h1 : pr sCm u = true
  · rw [if_pos h1, if_pos h1]
  · rw [if_neg h1, if_neg h1]
    by_cases h2 : pr sNo u = true ∧ 0 ≤ Lib.index (u.drop 8) sNe
    · rw [if_pos h2, if_pos h2]
    · rw [if_neg h2, if_neg h2]
      rcases tagO_cases u with ⟨e, a1, a2, a3⟩ | ⟨a, e⟩ | ⟨a, e⟩ | ⟨a, e⟩
      · rw [e, if_neg (by decide), a1, a2, a3]
        rcases tagC_cases u with ⟨e, b1, b2, b3⟩ | ⟨b, e⟩ | ⟨b, e⟩ | ⟨b, e⟩
        · rw [e, if_neg (by decide), b1, b2, b3]; simp
        · rw [e, if_pos (by decide), b]; simp
        · rw [e, if_pos (by decide), b, pr_not (q := c1) b ⟨2, by decide, by decide, by decide⟩]; simp
        · rw [e, if_pos (by decide), b, pr_not (q := c1) b ⟨2, by decide, by decide, by decide⟩, pr_not (q := c2) b ⟨2, by decide, by decide, by decide⟩]; simp
      · rw [e, if_pos (by decide), a]; simp
      · rw [e, if_pos (by decide), a, pr_not (q := o1) a ⟨1, by decide, by decide, by decide⟩, pr_not (q := c1) a ⟨1, by decide, by decide, by decide⟩]; simp
      · rw [e, if_pos (by decide), a, pr_not (q := o1) a ⟨1, by decide, by decide, by decide⟩, pr_not (q := c1) a ⟨1, by decide, by decide, by decide⟩, pr_not (q := o2) a ⟨1, by decide, by decide, by decide⟩, pr_not (q := c2) a ⟨1, by decide, by decide, by decide⟩]; simp
theorem TK_bools (u : List UInt8) : TK u =
    if pr sCm u then (9, if Lib.index (u.drop 4) sCe < 0 then u.length else 4 + (Lib.index (u.drop 4) sCe).toNat + 3)
    else if pr sNo u = true ∧ 0 ≤ Lib.index (u.drop 8) sNe then (10, 8 + (Lib.index (u.drop 8) sNe).toNat + 9)
    else if pr o1 u then (11, 11) else if pr c1 u then (12, 12) else if pr o2 u then (11, 13) else if pr c2 u then (12, 14) else if pr o3 u then (11, 13) else if pr c3 u then (12, 14)
    else if pr [123, 123] u then (3, runL 123 u) else if pr [125, 125] u then (4, runL 125 u) else if pr [91, 91] u then (5, 2) else if pr [93, 93] u then (6, 2)
    else if pr [124] u then (7, 1) else if pr [61] u then (8, 1) else if pr [10] u then (2, 1) else (0, 0) := by
  cases u with
  | nil => rfl
  | cons c t =>
    by_cases h : (60 : UInt8) = c
    · subst h
      have e : TK (60 :: t) = ANG (60 :: t) := rfl
      rw [e, ANG_bools]
      rw [pr_head (a := 123) (by decide), pr_head (a := 125) (by decide), pr_head (a := 91) (by decide), pr_head (a := 93) (by decide), pr_head (a := 124) (by decide), pr_head (a := 61) (by decide), pr_head (a := 10) (by decide)]
      simp
    · have h' : ¬ c = 60 := fun e => h e.symm
      rw [pr_head (a := 60) (p := [33, 45, 45]) h, pr_head (a := 60) (p := [110, 111, 119, 105, 107, 105, 62]) h, show pr o1 (c :: t) = false from pr_head h, show pr c1 (c :: t) = false from pr_head h, show pr o2 (c :: t) = false from pr_head h, show pr c2 (c :: t) = false from pr_head h, show pr o3 (c :: t) = false from pr_head h, show pr c3 (c :: t) = false from pr_head h]
      rw [pr2_iff, pr2_iff, pr2_iff, pr2_iff, pr1_iff, pr1_iff, pr1_iff]
      show (if c = 60 then _ else _) = _
      rw [if_neg h']
      simp only [if_false, Bool.false_eq_true, false_and, decide_eq_true_eq]
      by_cases q1 : c = 123
      · subst q1; simp [runL_head]
      by_cases q2 : c = 125
      · subst q2; simp [runL_head]
      by_cases q3 : c = 91
      · subst q3; simp [runL_head]
      by_cases q4 : c = 93
      · subst q4; simp [runL_head]
      simp [runL_head, q1, q2, q3, q4, eq_comm]
end Go.Proofs.Ytpcnfblpoepmbaa
