/- Plain law of trimming. -/
import Derived.Lib.SlTrimSet
namespace Go.Proofs.YtiggholdcebjjaaDoor
set_option linter.unusedSimpArgs false
set_option linter.unusedVariables false

abbrev WS : List UInt8 := [9, 10, 13, 32]
def tL (l : List UInt8) : List UInt8 := Lib.trimLeftS l WS
def tR (l : List UInt8) : List UInt8 := Lib.trimRightS l WS
theorem tS_eq (l : List UInt8) : Lib.trimS l WS = tL (tR l) := rfl
theorem tL_nil : tL [] = [] := rfl
theorem tL_yes {c : UInt8} {l : List UInt8} (h : WS.contains c = true) : tL (c :: l) = tL l := by
  unfold tL Lib.trimLeftS
  rw [List.dropWhile_cons, if_pos h]
theorem tL_no {c : UInt8} {l : List UInt8} (h : WS.contains c = false) : tL (c :: l) = c :: l := by
  unfold tL Lib.trimLeftS
  rw [List.dropWhile_cons, if_neg (by rw [h]; simp)]
theorem tR_nil : tR [] = [] := rfl
theorem tR_yes {c : UInt8} {l : List UInt8} (h : WS.contains c = true) : tR (l ++ [c]) = tR l := by
  unfold tR Lib.trimRightS
  rw [List.reverse_append]
  simp only [List.reverse_cons, List.reverse_nil, List.nil_append, List.singleton_append]
  rw [List.dropWhile_cons, if_pos h]
theorem tR_no {c : UInt8} {l : List UInt8} (h : WS.contains c = false) : tR (l ++ [c]) = l ++ [c] := by
  unfold tR Lib.trimRightS
  rw [List.reverse_append]
  simp only [List.reverse_cons, List.reverse_nil, List.nil_append, List.singleton_append]
  rw [List.dropWhile_cons, if_neg (by rw [h]; simp)]
  simp
theorem tL_tL : ∀ l, tL (tL l) = tL l
  | [] => rfl
  | c :: l => by
    cases h : WS.contains c
    · rw [tL_no h, tL_no h]
    · rw [tL_yes h]; exact tL_tL l
theorem snoc_cases (l : List UInt8) : l = [] ∨ ∃ t c, l = t ++ [c] := by
  rcases List.eq_nil_or_concat l with h | ⟨t, c, h⟩
  · exact .inl h
  · exact .inr ⟨t, c, by simpa using h⟩
theorem tR_tR : ∀ n (l : List UInt8), l.length ≤ n → tR (tR l) = tR l
  | 0, l, h => by
    have : l = [] := List.eq_nil_of_length_eq_zero (by omega)
    subst this
    rfl
  | n + 1, l, h => by
    rcases snoc_cases l with rfl | ⟨t, c, rfl⟩
    · rfl
    · cases hc : WS.contains c
      · rw [tR_no hc, tR_no hc]
      · rw [tR_yes hc]
        exact tR_tR n t (by simp at h; omega)
/-- both ends may be trimmed in either order -/
theorem tRL : ∀ n (l : List UInt8), l.length ≤ n → tR (tL l) = tL (tR l)
  | 0, l, h => by
    have : l = [] := List.eq_nil_of_length_eq_zero (by omega)
    subst this
    rfl
  | n + 1, [], h => rfl
  | n + 1, a :: t, h => by
    cases ha : WS.contains a
    · rw [tL_no ha]
      rcases snoc_cases t with rfl | ⟨t2, c, rfl⟩
      · have e : tR ([] ++ [a]) = [] ++ [a] := tR_no ha
        rw [show [a] = ([] : List UInt8) ++ [a] from rfl, e]
        exact (tL_no ha).symm
      · cases hc : WS.contains c
        · rw [show a :: (t2 ++ [c]) = (a :: t2) ++ [c] from rfl, tR_no hc]
          exact (tL_no ha).symm
        · rw [show a :: (t2 ++ [c]) = (a :: t2) ++ [c] from rfl, tR_yes hc]
          have ih := tRL n (a :: t2) (by simp at h ⊢; omega)
          rw [tL_no ha] at ih
          exact ih
    · rw [tL_yes ha, tRL n t (by simp at h; omega)]
      rcases snoc_cases t with rfl | ⟨t2, c, rfl⟩
      · have e : tR ([] ++ [a]) = tR [] := tR_yes ha
        rw [show [a] = ([] : List UInt8) ++ [a] from rfl, e]
      · cases hc : WS.contains c
        · rw [show a :: (t2 ++ [c]) = (a :: t2) ++ [c] from rfl, tR_no hc, tR_no hc]
          exact (tL_yes ha).symm
        · rw [show a :: (t2 ++ [c]) = (a :: t2) ++ [c] from rfl, tR_yes hc, tR_yes hc]
          have ih := tRL n (a :: t2) (by simp at h ⊢; omega)
          rw [tL_yes ha, tRL n t2 (by simp at h; omega)] at ih
          exact ih
theorem trim_eq (l : List UInt8) : tR (tL l) = Lib.trimS l WS := tRL l.length l (Nat.le_refl _)
theorem trim_trim (l : List UInt8) : Lib.trimS (Lib.trimS l WS) WS = Lib.trimS l WS := by
  rw [tS_eq l, tS_eq (tL (tR l))]
  rw [tRL _ (tR l) (Nat.le_refl _), tR_tR _ l (Nat.le_refl _), tL_tL]
end Go.Proofs.YtiggholdcebjjaaDoor
