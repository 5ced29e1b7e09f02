/- Plain law of the strings: pieces, parts, the divided string. -/
import Derived.Test.YtiggholdcebjjaaSPlain3
namespace Go.Proofs.Ytiggholdcebjjaa
set_option linter.unusedSimpArgs false
set_option linter.unusedVariables false

theorem ext_whole (s : ByteArray) : s.extract 0 s.size = s := by
  apply ByteArray.ext
  simp
theorem ext_cat (s : ByteArray) {a b c : Nat} (h : a ≤ b) (h2 : b ≤ c) : s.extract a b ++ s.extract b c = s.extract a c := by
  apply ByteArray.ext
  simp [Nat.min_eq_left h, Nat.max_eq_right h2]
theorem ext_cat2 (s : ByteArray) {b : Nat} (h : b ≤ s.size) : s.extract 0 b ++ s.extract b s.size = s := by
  rw [ext_cat s (Nat.zero_le _) h, ext_whole]
theorem ext_size (s : ByteArray) {a b : Nat} (h : b ≤ s.size) : (s.extract a b).size = b - a := by
  rw [ByteArray.size_extract]; omega
theorem slS_pre {s : ByteArray} {k : Nat} (hk : k ≤ NR s) : slS s 0 k = s.extract 0 (O s k) := by
  have e1 : sa (NR s) 0 = 0 := by unfold sa; rw [if_neg (by omega)]; omega
  have e2 : sb (NR s) 0 k = k := by unfold sb; rw [if_pos (by omega)]; omega
  rw [slS, e1, e2, O_zero]
theorem slS_rest {s : ByteArray} {k : Nat} {M : Int} (hk : k ≤ NR s) (hM : (NR s : Int) ≤ M) : slS s k M = s.extract (O s k) s.size := by
  have e1 : sa (NR s) k = k := by unfold sa; rw [if_neg (by omega)]; omega
  have e2 : sb (NR s) k M = NR s := by unfold sb; rw [if_pos (by omega)]; omega
  rw [slS, e1, e2, O_last]
theorem slS_neg {s : ByteArray} {k : Nat} (hk : k < NR s) : slS s 0 ((k : Int) - (NR s : Int)) = s.extract 0 (O s k) := by
  have e1 : sa (NR s) 0 = 0 := by unfold sa; rw [if_neg (by omega)]; omega
  have e2 : sb (NR s) 0 ((k : Int) - (NR s : Int)) = k := by unfold sb; rw [if_neg (by omega)]; split <;> omega
  rw [slS, e1, e2, O_zero]
theorem slS_all (s : ByteArray) : slS s (-(NR s : Int)) (NR s) = s := by
  have e1 : sa (NR s) (-(NR s : Int)) = 0 := by unfold sa; split <;> omega
  have e2 : sb (NR s) 0 (NR s) = NR s := by unfold sb; rw [if_pos (by omega)]; omega
  rw [slS, e1, e2, O_zero, O_last, ext_whole]

section
variable {s t : ByteArray}
theorem stands_fits {q : Nat} (hq : q ≤ s.size) (h : stands s t q = true) : q + t.size ≤ s.size := by
  rcases Nat.lt_or_ge s.size (q + t.size) with h1 | h1
  · rw [stands_short hq (by omega)] at h; cases h
  · exact h1
theorem stands_ext {q : Nat} (hq : q ≤ s.size) (h : stands s t q = true) : s.extract q (q + t.size) = t := by
  have h1 := stands_piece (s := s) (t := t) (stands_fits hq h)
  rw [h] at h1
  have h2 : (s.extract q (q + t.size)).toList = t.toList := by simpa using h1
  rw [ByteArray.toList_eq, ByteArray.toList_eq] at h2
  exact ByteArray.ext (Array.toList_inj.1 h2)
/-- the places follow one another, and the string stands at each -/
theorem occsI_chain : ∀ d {p e : Nat}, NR s + 1 - p = d → (∀ x ∈ occsI s t p e, e ≤ x ∧ x ≤ s.size ∧ stands s t x = true) ∧ (occsI s t p e).Pairwise (fun x y => x + t.size ≤ y)
  | 0, p, e, h => by rw [occsI_past (by omega)]; simp
  | d + 1, p, e, h => by
    rw [occsI_step (by omega)]
    split
    · rename_i hh
      obtain ⟨ih1, ih2⟩ := occsI_chain d (p := p + 1) (e := O s p + t.size) (by omega)
      have hO := O_size (s := s) (k := p) (by omega)
      refine ⟨fun x hx => ?_, List.pairwise_cons.2 ⟨fun x hx => (ih1 x hx).1, ih2⟩⟩
      rcases List.mem_cons.1 hx with rfl | hx
      · exact ⟨hh.1, hO, hh.2⟩
      · have := ih1 x hx
        exact ⟨by omega, this.2⟩
    · exact occsI_chain d (p := p + 1) (e := e) (by omega)
theorem occs_stands {x : Nat} (h : x ∈ occs s t) : x ≤ s.size ∧ stands s t x = true := by
  unfold occs at h
  split at h
  · simp at h
  · exact ((occsI_chain _ rfl).1 x h).2
theorem occs_pair : (occs s t).Pairwise (fun x y => x + t.size ≤ y) := by
  unfold occs
  split
  · simp
  · exact (occsI_chain _ rfl).2

/-- where the i-th part begins -/
def lo (s t : ByteArray) (i : Nat) : Nat := if i = 0 then 0 else (occs s t).getD (i - 1) 0 + t.size
/-- where the i-th part ends -/
def hi (s t : ByteArray) (i : Nat) : Nat := if i < (occs s t).length then (occs s t).getD i 0 else s.size
/-- how often t is found -/
def NO (s t : ByteArray) : Nat := (occs s t).length
def part (s t : ByteArray) (i : Nat) : ByteArray := s.extract (lo s t i) (hi s t i)
theorem lo_zero : lo s t 0 = 0 := rfl
theorem lo_succ (i : Nat) : lo s t (i + 1) = (occs s t).getD i 0 + t.size := rfl
theorem hi_lt {i : Nat} (h : i < NO s t) : hi s t i = (occs s t).getD i 0 := if_pos h
theorem hi_last : hi s t (NO s t) = s.size := if_neg (Nat.lt_irrefl _)
theorem lo_hi {i : Nat} (h : i < NO s t) : lo s t (i + 1) = hi s t i + t.size := by rw [lo_succ, hi_lt h]
theorem getD_mem {l : List Nat} {i : Nat} (h : i < l.length) : l.getD i 0 ∈ l := by rw [getD_eq h]; exact List.getElem_mem h
theorem hi_ext {i : Nat} (h : i < NO s t) : s.extract (hi s t i) (lo s t (i + 1)) = t := by
  have := occs_stands (getD_mem (l := occs s t) h)
  rw [lo_hi h, hi_lt h]
  exact stands_ext this.1 this.2
theorem lo_size {i : Nat} (h : i ≤ NO s t) : lo s t i ≤ s.size := by
  cases i with
  | zero => exact Nat.zero_le _
  | succ i =>
    have := occs_stands (getD_mem (l := occs s t) (i := i) h)
    exact stands_fits this.1 this.2
theorem hi_size {i : Nat} (h : i ≤ NO s t) : hi s t i ≤ s.size := by
  unfold hi
  split
  · rename_i h1
    exact (occs_stands (getD_mem h1)).1
  · exact Nat.le_refl _
theorem lo_le {i : Nat} (h : i ≤ NO s t) : lo s t i ≤ hi s t i := by
  cases i with
  | zero => exact Nat.zero_le _
  | succ i =>
    rcases Nat.lt_or_ge (i + 1) (NO s t) with h1 | h1
    · rw [lo_succ, hi_lt h1]
      have h2 := List.pairwise_iff_getElem.1 (occs_pair (s := s) (t := t)) i (i + 1) (by unfold NO at h; omega) h1 (Nat.lt_succ_self _)
      rw [getD_eq (by unfold NO at h; omega), getD_eq h1]
      exact h2
    · have e : i + 1 = NO s t := by omega
      rw [e, hi_last]
      exact lo_size (Nat.le_refl _)
theorem NO_le (s t : ByteArray) : NO s t ≤ s.size + 1 := by
  have := length_occs s t
  have := NR_le s
  unfold NO
  omega
/-- the parts with the separators between them, from the front -/
theorem parts_front {i : Nat} (h : i < NO s t) : s.extract 0 (hi s t i) ++ t ++ part s t (i + 1) = s.extract 0 (hi s t (i + 1)) := by
  have h1 := lo_le (s := s) (t := t) (i := i + 1) (by omega)
  have h2 := lo_hi h
  have e := hi_ext h
  calc s.extract 0 (hi s t i) ++ t ++ part s t (i + 1) = s.extract 0 (hi s t i) ++ s.extract (hi s t i) (lo s t (i + 1)) ++ part s t (i + 1) := by rw [e]
    _ = _ := by rw [ext_cat s (Nat.zero_le _) (by omega), part, ext_cat s (Nat.zero_le _) h1]
theorem parts_back {i : Nat} (h : i < NO s t) : part s t i ++ t ++ s.extract (lo s t (i + 1)) s.size = s.extract (lo s t i) s.size := by
  have h1 := lo_le (s := s) (t := t) (i := i) (by omega)
  have h2 := lo_hi h
  have h3 := lo_size (s := s) (t := t) (i := i + 1) (by omega)
  have e := hi_ext h
  calc part s t i ++ t ++ s.extract (lo s t (i + 1)) s.size = part s t i ++ s.extract (hi s t i) (lo s t (i + 1)) ++ s.extract (lo s t (i + 1)) s.size := by rw [e]
    _ = _ := by rw [part, ext_cat s h1 (by omega), ext_cat s (by omega) h3]
end
end Go.Proofs.Ytiggholdcebjjaa
