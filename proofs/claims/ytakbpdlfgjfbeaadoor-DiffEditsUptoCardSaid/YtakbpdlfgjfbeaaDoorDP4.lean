/- The pieces of strings.SplitAfter at the end of a line, in plain Lean: the lines, and an empty one if the text is empty or ends with an end of line. -/
import Derived.Test.YtakbpdlfgjfbeaaDoorDP3
import Derived.Lib.SplitLaws
namespace Go.Proofs.YtakbpdlfgjfbeaaDoor
set_option linter.unusedSimpArgs false
set_option linter.unusedVariables false

def nl : ByteArray := ⟨#[10]⟩
def tl (l : List UInt8) : List (List UInt8) := if l = [] ∨ l.getLast? = some 10 then [[]] else []
theorem tl_cons (c : UInt8) {t : List UInt8} (h : t ≠ []) : tl (c :: t) = tl t := by
  unfold tl
  rw [List.getLast?_cons]
  cases e : t.getLast? with
  | none => exact absurd (List.getLast?_eq_none_iff.1 e) h
  | some x => simp [h]
theorem splitK_ne {c : UInt8} (hc : c ≠ 10) (t : List UInt8) (k : Nat) : ∃ h r, Lib.splitK [10] 1 k t = h :: r ∧ Lib.splitK [10] 1 k (c :: t) = (c :: h) :: r := by
  cases k with
  | zero => exact ⟨t, [], rfl, rfl⟩
  | succ k =>
    have e : Lib.index (c :: t) [10] = if Lib.index t [10] == -1 then -1 else Lib.index t [10] + 1 := by
      rw [Lib.index, if_neg (by simp only [List.isPrefixOf, Bool.and_true, beq_iff_eq]; exact fun h => hc h.symm)]
    by_cases h : Lib.index t [10] = -1
    · rw [h] at e
      refine ⟨t, [], ?_, ?_⟩
      · rw [Lib.splitK, h, if_pos (by rfl)]
      · rw [Lib.splitK, e, if_pos (by rfl)]
    · obtain ⟨i, hi⟩ : ∃ i : Nat, Lib.index t [10] = i := ⟨(Lib.index t [10]).toNat, by have := Lib.index_ge t [10]; omega⟩
      have hn : ¬ ((i : Int) == -1) = true := by rw [beq_iff_eq]; omega
      rw [hi, if_neg hn] at e
      have hn2 : ¬ (((i : Int) + 1) == -1) = true := by rw [beq_iff_eq]; omega
      have e3 : ((i : Int) + 1).toNat = i + 1 := by omega
      refine ⟨t.take (i + 1), Lib.splitK [10] 1 k (t.drop (i + 1)), ?_, ?_⟩
      · rw [Lib.splitK, hi, if_neg hn]; try rfl
      · rw [Lib.splitK, e, if_neg hn2, e3]; try rfl
theorem splitK_lnl : ∀ l : List UInt8, Lib.splitK [10] 1 (l.count 10) l = lnl l ++ tl l
  | [] => rfl
  | c :: t => by
    have ih := splitK_lnl t
    by_cases hc : c = 10
    · subst hc
      have e : Lib.index (10 :: t) [10] = 0 := by rw [Lib.index, if_pos (by simp [List.isPrefixOf])]
      rw [List.count_cons_self, Lib.splitK, e, if_neg (by decide)]
      show [10] :: Lib.splitK [10] 1 (t.count 10) t = _
      rw [ih, lnl, if_pos rfl]
      by_cases ht : t = []
      · subst ht; rfl
      · rw [tl_cons _ ht]; rfl
    · rw [List.count_cons_of_ne (fun h => hc (by simpa using h))]
      obtain ⟨h, r, e1, e2⟩ := splitK_ne hc t (t.count 10)
      rw [e2]
      rw [e1] at ih
      rw [lnl, if_neg hc]
      by_cases ht : t = []
      · subst ht
        simp only [lnl, tl, List.nil_append] at ih ⊢
        simp at ih
        obtain ⟨rfl, rfl⟩ := ih
        simp [hc]
      · rw [tl_cons _ ht]
        cases hl : lnl t with
        | nil =>
          have := lnl_flatten t
          rw [hl] at this
          exact absurd this.symm ht
        | cons x y =>
          rw [hl, List.cons_append] at ih
          obtain ⟨rfl, rfl⟩ := List.cons.inj ih
          rfl
/-- what is left behind the last end of line, if it is nothing -/
def tlB (s : ByteArray) : List ByteArray := (tl s.data.toList).map fun l => ⟨l.toArray⟩
theorem split_LN (s : ByteArray) : Lib.splitB nl 1 (Lib.countB s nl) s = LN s ++ tlB s := by
  have h := Lib.splitB_data nl 1 (Lib.countB s nl) s
  have hc : Lib.countB s nl = s.data.toList.count 10 := Lib.count_one 10 s.data.toList
  have e : nl.data.toList = [10] := rfl
  rw [e, hc, splitK_lnl] at h
  rw [hc]
  have h2 := congrArg (List.map fun l : List UInt8 => (⟨l.toArray⟩ : ByteArray)) h
  rw [List.map_map, List.map_append] at h2
  have e3 : ((fun l : List UInt8 => (⟨l.toArray⟩ : ByteArray)) ∘ fun x : ByteArray => x.data.toList) = id := by funext x; rfl
  rw [e3, List.map_id] at h2
  exact h2
theorem lnl_ne : ∀ (l : List UInt8), [] ∉ lnl l
  | [] => by simp [lnl]
  | c :: t => by
    have := lnl_ne t
    rw [lnl]
    split
    · intro h; rcases List.mem_cons.1 h with h | h
      · cases h
      · exact this h
    · split
      · simp
      · rename_i l r e
        intro h; rcases List.mem_cons.1 h with h | h
        · cases h
        · exact this (by rw [e]; exact List.mem_cons_of_mem _ h)
end Go.Proofs.YtakbpdlfgjfbeaaDoor
