/- Lines of a beginning of a text, in plain Lean. -/
import Derived.Test.YtakbpdlfgjfbeaaDoorDP2
namespace Go.Proofs.YtakbpdlfgjfbeaaDoor
set_option linter.unusedSimpArgs false
set_option linter.unusedVariables false

theorem lnl_append (p q : List UInt8) (h : p = [] ∨ p.getLast? = some 10) : lnl (p ++ q) = lnl p ++ lnl q := by
  induction p with
  | nil => simp [lnl]
  | cons c p ih =>
    rw [List.cons_append, lnl, lnl]
    by_cases hp : p = []
    · subst hp
      have hc : c = 10 := by simpa using h
      rw [if_pos hc, if_pos hc]
      simp [lnl]
    · have hl : p.getLast? = some 10 := by
        rcases h with h | h
        · cases h
        · rw [List.getLast?_cons] at h
          cases e : p.getLast? with
          | none => exact absurd (List.getLast?_eq_none_iff.1 e) hp
          | some x => rw [e] at h; simpa using h
      rw [ih (Or.inr hl)]
      by_cases hc : c = 10
      · rw [if_pos hc, if_pos hc]; rfl
      · rw [if_neg hc, if_neg hc]
        cases hk : lnl p with
        | nil =>
          have := lnl_flatten p
          rw [hk] at this
          exact absurd this.symm hp
        | cons l r => rfl

/-- place k of s begins a line -/
def brk (s : ByteArray) (k : Nat) : Prop := k ≤ s.size ∧ (k = 0 ∨ s.data.toList[k - 1]? = some 10)
def LNt (s : ByteArray) (k : Nat) : List ByteArray := (lnl (s.data.toList.take k)).map fun l => ⟨l.toArray⟩
theorem LNt_zero (s : ByteArray) : LNt s 0 = [] := by simp [LNt, lnl]
theorem LNt_all (s : ByteArray) : LNt s s.size = LN s := by
  unfold LNt LN
  rw [List.take_of_length_le (show s.data.toList.length ≤ s.size from Nat.le_of_eq (Array.length_toList : s.data.toList.length = s.data.size))]
theorem brk.take {s : ByteArray} {k : Nat} (h : brk s k) : s.data.toList.take k = [] ∨ (s.data.toList.take k).getLast? = some 10 := by
  obtain ⟨h1, h2⟩ := h
  have hl : s.data.toList.length = s.size := (Array.length_toList : s.data.toList.length = s.data.size)
  rcases h2 with rfl | h2
  · left; rfl
  · by_cases h0 : k = 0
    · subst h0; left; rfl
    · right
      rw [List.getLast?_eq_getElem?, List.length_take, hl, Nat.min_eq_left h1, List.getElem?_take, if_pos (by omega)]
      exact h2
theorem take_split (s : ByteArray) {a b : Nat} (h : a ≤ b) : s.data.toList.take b = s.data.toList.take a ++ (s.extract a b).data.toList := by
  have e : (s.extract a b).data.toList = (s.data.toList.take b).drop a := by rw [ByteArray.data_extract, Array.toList_extract, List.extract_eq_take_drop, List.drop_take]
  rw [e]
  have := List.take_append_drop a (s.data.toList.take b)
  rw [List.take_take, Nat.min_eq_left h] at this
  exact this.symm
theorem ext_none {s : ByteArray} {a b : Nat} (hb : b ≤ s.size) (h : ∀ j, a ≤ j → j < b → s.data.toList[j]? ≠ some 10) : 10 ∉ (s.extract a b).data.toList := by
  intro hm
  have e : (s.extract a b).data.toList = (s.data.toList.take b).drop a := by rw [ByteArray.data_extract, Array.toList_extract, List.extract_eq_take_drop, List.drop_take]
  rw [e] at hm
  obtain ⟨i, hi⟩ := List.mem_iff_getElem?.1 hm
  rw [List.getElem?_drop, List.getElem?_take] at hi
  split at hi
  · exact h (a + i) (by omega) (by omega) hi
  · cases hi
theorem LNt_hit {s : ByteArray} {a i : Nat} (hb : brk s a) (hai : a ≤ i) (hi : i < s.size) (h10 : s.data.toList[i]? = some 10) (hn : ∀ j, a ≤ j → j < i → s.data.toList[j]? ≠ some 10) :
    LNt s (i + 1) = LNt s a ++ [s.extract a (i + 1)] := by
  unfold LNt
  rw [take_split s (by omega : a ≤ i + 1), lnl_append _ _ hb.take, List.map_append]
  congr 1
  have e2 : (s.extract a (i + 1)).data.toList = (s.extract a i).data.toList ++ [10] := by
    have h1 := take_split s (by omega : a ≤ i + 1)
    have h2 := take_split s hai
    have h3 : s.data.toList.take (i + 1) = s.data.toList.take i ++ [10] := by
      rw [List.take_add_one, h10]; rfl
    rw [h1, h2, List.append_assoc] at h3
    exact List.append_cancel_left h3
  rw [e2, lnl_hit _ [] (ext_none (by omega) hn)]
  simp only [lnl, List.map_cons, List.map_nil]
  rw [← e2]
theorem LNt_end {s : ByteArray} {a : Nat} (hb : brk s a) (ha : a < s.size) (hn : ∀ j, a ≤ j → j < s.size → s.data.toList[j]? ≠ some 10) :
    LN s = LNt s a ++ [s.extract a s.size] := by
  rw [← LNt_all]
  unfold LNt
  rw [take_split s (by omega : a ≤ s.size), lnl_append _ _ hb.take, List.map_append]
  congr 1
  have hne : (s.extract a s.size).data.toList ≠ [] := by
    intro h0
    have : (s.extract a s.size).data.toList.length = 0 := by rw [h0]; rfl
    simp at this
    have hl : s.data.size = s.size := rfl
    omega
  rw [lnl_miss _ (ext_none (Nat.le_refl _) hn) hne]
  rfl
theorem at_get {s : ByteArray} {i : Nat} (h : i < s.size) : s.data.toList[i]? = some s[i] := by
  rw [List.getElem?_eq_getElem (show i < s.data.toList.length from by rw [Array.length_toList]; exact h)]
  rfl
theorem LNt_length (s : ByteArray) (k : Nat) : (LNt s k).length ≤ k := by
  unfold LNt
  rw [List.length_map]
  refine Nat.le_trans (lnl_length _) ?_
  rw [List.length_take]
  exact Nat.min_le_left _ _
end Go.Proofs.YtakbpdlfgjfbeaaDoor
