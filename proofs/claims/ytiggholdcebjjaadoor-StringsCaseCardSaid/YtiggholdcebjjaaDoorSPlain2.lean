/- Plain law of the strings: where a string stands. -/
import Derived.Test.YtiggholdcebjjaaDoorSPlain
import Derived.Lib.IndexMore
import Derived.Lib.IndexBytes
import Derived.Lib.IndexLaws
namespace Go.Proofs.YtiggholdcebjjaaDoor
set_option linter.unusedSimpArgs false
set_option linter.unusedVariables false

/-- t stands in s at byte q -/
def stands (s t : ByteArray) (q : Nat) : Bool := Lib.occAt s.data.toList t.data.toList q
def occF (s t : ByteArray) : Nat → Nat → Int
  | 0, _ => -1
  | f + 1, p => if stands s t (O s p) then (p : Int) else occF s t f (p + 1)
/-- the first rune from i on at which t stands -/
def occI (s t : ByteArray) (i : Nat) : Int := occF s t (NR s + 1 - i) i
section
variable {s t : ByteArray}
theorem occI_past {i : Nat} (h : ¬ i < NR s + 1) : occI s t i = -1 := by
  unfold occI
  rw [show NR s + 1 - i = 0 by omega]
  rfl
theorem occI_hit {i : Nat} (h : i < NR s + 1) (hs : stands s t (O s i) = true) : occI s t i = (i : Int) := by
  unfold occI
  rw [show NR s + 1 - i = (NR s - i) + 1 by omega, occF, if_pos hs]
theorem occI_miss {i : Nat} (h : i < NR s + 1) (hs : stands s t (O s i) = false) : occI s t i = occI s t (i + 1) := by
  unfold occI
  rw [show NR s + 1 - i = (NR s - i) + 1 by omega, occF, if_neg (by rw [hs]; simp), show NR s + 1 - (i + 1) = NR s - i by omega]
theorem occI_skip {i : Nat} : ∀ d, i + d ≤ NR s + 1 → (∀ p, i ≤ p → p < i + d → stands s t (O s p) = false) → occI s t i = occI s t (i + d)
  | 0, _, _ => rfl
  | d + 1, h, hn => by
    rw [occI_skip d (by omega) (fun p h1 h2 => hn p h1 (by omega)), occI_miss (by omega) (hn (i + d) (by omega) (by omega))]
    rfl
theorem occI_none {i : Nat} (hn : ∀ p, i ≤ p → p < NR s + 1 → stands s t (O s p) = false) : occI s t i = -1 := by
  rcases Nat.lt_or_ge i (NR s + 1) with h | h
  · obtain ⟨d, hd⟩ : ∃ d, i + d = NR s + 1 := ⟨NR s + 1 - i, by omega⟩
    rw [occI_skip d (by omega) (fun p h1 h2 => hn p h1 (by omega)), occI_past (by omega)]
  · exact occI_past (by omega)
/-- what strings.Index of the rest says -/
theorem index_rest (s t : ByteArray) (a : Nat) (ha : a ≤ s.size) :
    (Lib.index (s.extract a s.size).data.toList t.data.toList = -1 ∧ ∀ q, a ≤ q → q ≤ s.size → stands s t q = false) ∨
    (∃ k : Nat, Lib.index (s.extract a s.size).data.toList t.data.toList = (k : Int) ∧ a + k ≤ s.size ∧ stands s t (a + k) = true ∧ ∀ q, a ≤ q → q < a + k → stands s t q = false) := by
  rw [Lib.extract_to_end]
  have hlen : s.data.toList.length = s.size := by simp
  have he : ∀ j, Lib.occAt (s.data.toList.drop a) t.data.toList j = stands s t (a + j) := fun j => by
    unfold stands Lib.occAt
    rw [List.drop_drop]
  rcases Lib.index_spec (s.data.toList.drop a) t.data.toList with ⟨h1, h2⟩ | ⟨i, h1, h2, h3, h4⟩
  · refine .inl ⟨h1, fun q hq1 hq2 => ?_⟩
    have := h2 (q - a) (by rw [List.length_drop, hlen]; omega)
    rw [he] at this
    rwa [show a + (q - a) = q by omega] at this
  · rw [List.length_drop, hlen] at h2
    refine .inr ⟨i, h1, by omega, by rw [← he]; exact h3, fun q hq1 hq2 => ?_⟩
    have := h4 (q - a) (by omega)
    rw [he] at this
    rwa [show a + (q - a) = q by omega] at this
/-- what the comparison of the reference says -/
theorem stands_piece {q : Nat} (h : q + t.size ≤ s.size) : ((s.extract q (q + t.size)).toList == t.toList) = stands s t q := (Lib.occ_of_piece s t q h).symm
theorem stands_short {q : Nat} (hq : q ≤ s.size) (h : ¬ q + t.size ≤ s.size) : stands s t q = false := by
  unfold stands Lib.occAt
  rw [Bool.eq_false_iff]
  intro h1
  have := (List.isPrefixOf_iff_prefix.1 h1).length_le
  simp at this
  omega
end
end Go.Proofs.YtiggholdcebjjaaDoor
