/- Plain law of the tokens: the token that a text begins with. -/
import Derived.Lib.IndexMore
import Derived.Lib.IndexBytes
import Derived.Lib.IndexLaws
import Derived.Lib.Strings
namespace Go.Proofs.Ytpcnfblpoepmbaa
set_option linter.unusedSimpArgs false
set_option linter.unusedVariables false

abbrev sCm : List UInt8 := [60, 33, 45, 45]
abbrev sCe : List UInt8 := [45, 45, 62]
abbrev sNo : List UInt8 := [60, 110, 111, 119, 105, 107, 105, 62]
abbrev sNe : List UInt8 := [60, 47, 110, 111, 119, 105, 107, 105, 62]
abbrev o1 : List UInt8 := [60, 110, 111, 105, 110, 99, 108, 117, 100, 101, 62]
abbrev o2 : List UInt8 := [60, 105, 110, 99, 108, 117, 100, 101, 111, 110, 108, 121, 62]
abbrev o3 : List UInt8 := [60, 111, 110, 108, 121, 105, 110, 99, 108, 117, 100, 101, 62]
abbrev c1 : List UInt8 := [60, 47, 110, 111, 105, 110, 99, 108, 117, 100, 101, 62]
abbrev c2 : List UInt8 := [60, 47, 105, 110, 99, 108, 117, 100, 101, 111, 110, 108, 121, 62]
abbrev c3 : List UInt8 := [60, 47, 111, 110, 108, 121, 105, 110, 99, 108, 117, 100, 101, 62]
/-- does l begin with p? -/
def pr (p l : List UInt8) : Bool := p.isPrefixOf l
/-- how many bytes c stand at the beginning of l -/
def runL (c : UInt8) : List UInt8 → Nat
  | [] => 0
  | a :: l => if a = c then runL c l + 1 else 0
/-- the tag that l begins with, and its length -/
def tagO (l : List UInt8) : Nat × Nat := if pr o1 l then (1, 11) else if pr o2 l then (2, 13) else if pr o3 l then (3, 13) else (0, 0)
def tagC (l : List UInt8) : Nat × Nat := if pr c1 l then (1, 12) else if pr c2 l then (2, 14) else if pr c3 l then (3, 14) else (0, 0)
/-- kind and length of the token that begins with "<" -/
def ANG (l : List UInt8) : Nat × Nat :=
  if pr sCm l then (9, if Lib.index (l.drop 4) sCe < 0 then l.length else 4 + (Lib.index (l.drop 4) sCe).toNat + 3)
  else if pr sNo l = true ∧ 0 ≤ Lib.index (l.drop 8) sNe then (10, 8 + (Lib.index (l.drop 8) sNe).toNat + 9)
  else if 0 < (tagO l).2 then (11, (tagO l).2)
  else if 0 < (tagC l).2 then (12, (tagC l).2)
  else (0, 0)
/-- kind and length of the token that l begins with, 0 for a text -/
def TK (l : List UInt8) : Nat × Nat :=
  match l with
  | [] => (0, 0)
  | c :: _ =>
    if c = 60 then ANG l
    else if c = 123 then (if 2 ≤ runL 123 l then (3, runL 123 l) else (0, 0))
    else if c = 125 then (if 2 ≤ runL 125 l then (4, runL 125 l) else (0, 0))
    else if c = 91 then (if 2 ≤ runL 91 l then (5, 2) else (0, 0))
    else if c = 93 then (if 2 ≤ runL 93 l then (6, 2) else (0, 0))
    else if c = 124 then (7, 1)
    else if c = 61 then (8, 1)
    else if c = 10 then (2, 1)
    else (0, 0)

theorem pr_iff {p l : List UInt8} : pr p l = true ↔ p <+: l := List.isPrefixOf_iff_prefix
theorem pr_app {p l r : List UInt8} (h : pr p l = true) : pr p (l ++ r) = true := by
  rw [pr_iff] at *
  exact h.trans (List.prefix_append _ _)
theorem pr_take {p l : List UInt8} {n : Nat} (h : pr p l = true) (hn : p.length ≤ n) : pr p (l.take n) = true := by
  rw [pr_iff] at *
  obtain ⟨r, rfl⟩ := h
  rw [List.take_append]
  rw [List.take_of_length_le hn]
  exact List.prefix_append _ _
theorem pr_of_take {p l : List UInt8} {n : Nat} (h : pr p (l.take n) = true) : pr p l = true := by
  rw [pr_iff] at *
  exact h.trans (List.take_prefix _ _)
theorem pr_len {p l : List UInt8} (h : pr p l = true) : p.length ≤ l.length := (pr_iff.1 h).length_le
theorem pr_self (p : List UInt8) : pr p p = true := pr_iff.2 (List.prefix_refl _)
theorem pr_full {p l : List UInt8} (h : pr p l = true) (hn : p.length = l.length) : p = l := (pr_iff.1 h).eq_of_length hn
theorem pr_take_self {p l : List UInt8} (h : pr p l = true) : l.take p.length = p := by
  obtain ⟨r, rfl⟩ := pr_iff.1 h
  simp
/-- two different starts of one list -/
theorem pr_not {p q l : List UInt8} (h : pr p l = true) (hne : ∃ i, i < p.length ∧ i < q.length ∧ p.getD i 0 ≠ q.getD i 0) : pr q l = false := by
  rw [Bool.eq_false_iff]
  intro h2
  obtain ⟨i, h3, h4, h5⟩ := hne
  obtain ⟨r, rfl⟩ := pr_iff.1 h
  obtain ⟨r2, e⟩ := pr_iff.1 h2
  apply h5
  have e2 := congrArg (fun l => l.getD i 0) e
  simp only [List.getD_eq_getElem?_getD] at e2 ⊢
  rw [List.getElem?_append_left h4, List.getElem?_append_left h3] at e2
  exact e2.symm
theorem pr_nl {b : List UInt8} : ∀ {p u : List UInt8}, (10 : UInt8) ∉ p → pr p (u ++ 10 :: b) = pr p (u ++ [10])
  | [], u, _ => by simp [pr]
  | a :: p, [], h => by
    simp at h
    have : (a == (10 : UInt8)) = false := by simpa using fun e => h.1 e.symm
    simp [pr, List.isPrefixOf, this]
  | a :: p, c :: u, h => by
    simp at h
    have ih := pr_nl (b := b) (p := p) (u := u) h.2
    simp only [pr] at ih
    simp [pr, List.isPrefixOf, ih]
theorem runL_le (c : UInt8) : ∀ l, runL c l ≤ l.length
  | [] => Nat.le_refl _
  | a :: l => by
    unfold runL
    split
    · have := runL_le c l; simp; omega
    · exact Nat.zero_le _
theorem runL_rep (c : UInt8) : ∀ n, runL c (List.replicate n c) = n
  | 0 => rfl
  | n + 1 => by rw [List.replicate_succ, runL, if_pos rfl, runL_rep c n]
theorem runL_take (c : UInt8) : ∀ l, l.take (runL c l) = List.replicate (runL c l) c
  | [] => rfl
  | a :: l => by
    unfold runL
    split
    · rename_i h
      subst h
      rw [List.replicate_succ, List.take_succ_cons, runL_take a l]
    · rfl
theorem runL_app {c : UInt8} : ∀ {l r : List UInt8}, runL c l ≤ runL c (l ++ r)
  | [], r => Nat.zero_le _
  | a :: l, r => by
    unfold runL
    simp only [List.cons_append]
    split
    · have := runL_app (c := c) (l := l) (r := r); omega
    · exact Nat.le_refl _
theorem runL_nl {c : UInt8} {b : List UInt8} (h : c ≠ 10) : ∀ {u : List UInt8}, runL c (u ++ 10 :: b) = runL c (u ++ [10])
  | [] => by simp [runL, Ne.symm h]
  | a :: u => by
    simp only [List.cons_append, runL]
    rw [runL_nl h]

/-! ### where a string is found first -/
theorem ix_uniq {s p : List UInt8} {k : Nat} (h1 : Lib.occAt s p k = true) (h2 : ∀ j, j < k → Lib.occAt s p j = false) (hk : k ≤ s.length) : Lib.index s p = (k : Int) := by
  rcases Lib.index_spec s p with ⟨_, h⟩ | ⟨i, h, _, h4, h5⟩
  · rw [h k hk] at h1; cases h1
  · rw [h]
    have h6 : ¬ i < k := fun hlt => by rw [h2 i hlt] at h4; cases h4
    have h7 : ¬ k < i := fun hlt => by rw [h5 k hlt] at h1; cases h1
    omega
theorem occ_take {s p : List UInt8} {j n : Nat} (h : Lib.occAt (s.take n) p j = true) : Lib.occAt s p j = true := by
  unfold Lib.occAt at *
  rw [List.drop_take] at h
  exact pr_of_take h
theorem occ_app {s r p : List UInt8} {j : Nat} (hj : j ≤ s.length) (h : Lib.occAt s p j = true) : Lib.occAt (s ++ r) p j = true := by
  unfold Lib.occAt at *
  rw [List.drop_append_of_le_length hj]
  exact pr_app h
theorem ix_take {s p : List UInt8} {k : Nat} (h : Lib.index s p = (k : Int)) : Lib.index (s.take (k + p.length)) p = (k : Int) := by
  rcases Lib.index_spec s p with ⟨h1, _⟩ | ⟨i, h1, h2, h3, h4⟩
  · omega
  · obtain rfl : i = k := by omega
    have hl : i + p.length ≤ s.length := by
      have := pr_len (p := p) (l := s.drop i) h3
      rw [List.length_drop] at this
      omega
    refine ix_uniq ?_ (fun j hj => ?_) (by rw [List.length_take]; omega)
    · unfold Lib.occAt at *
      rw [List.drop_take]
      exact pr_take h3 (by omega)
    · rw [Bool.eq_false_iff]
      intro h5
      have := occ_take h5
      rw [h4 j hj] at this
      cases this
theorem ix_app {s r p : List UInt8} (h : 0 ≤ Lib.index s p) : 0 ≤ Lib.index (s ++ r) p := by
  rcases Lib.index_spec s p with ⟨h1, _⟩ | ⟨i, h1, h2, h3, h4⟩
  · omega
  · rcases Lib.index_spec (s ++ r) p with ⟨h5, h6⟩ | ⟨i', h5, _⟩
    · have := occ_app (r := r) h2 h3
      rw [h6 i (by rw [List.length_append]; omega)] at this
      cases this
    · omega
theorem ix_len {s p : List UInt8} {k : Nat} (h : Lib.index s p = (k : Int)) : k + p.length ≤ s.length := by
  rcases Lib.index_spec s p with ⟨h1, _⟩ | ⟨i, h1, h2, h3, h4⟩
  · omega
  · have := pr_len (p := p) (l := s.drop i) h3
    rw [List.length_drop] at this
    omega
end Go.Proofs.Ytpcnfblpoepmbaa
