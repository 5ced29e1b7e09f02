/- The shape of a difference, and the lines of a text, in plain Lean. -/
import Derived.Test.YtbeijpajodgpeaaDoorDP1
namespace Go.Proofs.YtbeijpajodgpeaaDoor
set_option linter.unusedSimpArgs false
set_option linter.unusedVariables false
set_option linter.unusedSectionVars false

section
variable {α : Type} [DecidableEq α]
/-- no empty edit, no two of one kind in succession, no insertion ahead of a deletion -/
def Nexts (a b : Nat × List α) : Prop := a.1 ≠ b.1 ∧ ¬ (a.1 = 3 ∧ b.1 = 2)
def Good (l : List (Nat × List α)) : Prop := (∀ e ∈ l, e.2 ≠ []) ∧ ∀ i (h : i + 1 < l.length), Nexts l[i] l[i + 1]
def lastK (l : List (Nat × List α)) : Nat := match l.getLast? with | some e => e.1 | none => 0
theorem lastK_put (E : List (Nat × List α)) (k : Nat) (l : List α) : lastK (E ++ put1 k l) = if l = [] then lastK E else k := by
  unfold put1
  by_cases h : l = []
  · subst h; simp
  · simp [h, lastK]
theorem Good.nil : Good ([] : List (Nat × List α)) := ⟨by simp, by simp⟩
theorem Good.snoc {E : List (Nat × List α)} {k : Nat} {l : List α} (h : Good E) (hk : l ≠ [] → lastK E ≠ k ∧ ¬ (lastK E = 3 ∧ k = 2)) : Good (E ++ put1 k l) := by
  unfold put1
  by_cases hl : l = []
  · subst hl; simpa using h
  · rw [if_neg hl]
    refine ⟨fun e he => ?_, fun i hi => ?_⟩
    · rcases List.mem_append.1 he with he | he
      · exact h.1 e he
      · rw [List.mem_singleton.1 he]; exact hl
    · simp only [List.length_append, List.length_singleton] at hi
      by_cases h1 : i + 1 < E.length
      · rw [List.getElem_append_left (by omega), List.getElem_append_left h1]
        exact h.2 i h1
      · have e : i + 1 = E.length := by omega
        rw [List.getElem_append_left (by omega), List.getElem_append_right (by omega)]
        have hz : E.length - 1 = i := by omega
        have hg : E.getLast? = some E[i] := by rw [List.getLast?_eq_getElem?, hz]; exact List.getElem?_eq_getElem _
        have := hk hl
        unfold lastK at this
        rw [hg] at this
        simp only [e, Nat.sub_self, List.getElem_cons_zero]
        exact this
structure Sh (s : St α) : Prop where
  good : Good s.E
  one : s.K = [] ∨ (s.D = [] ∧ s.I = [])
  kept : s.K ≠ [] → lastK s.E ≠ 1
  gone : (s.D ≠ [] ∨ s.I ≠ []) → lastK s.E ≠ 2 ∧ lastK s.E ≠ 3
  none_ : s.K = [] → s.D = [] → s.I = [] → s.E = []
theorem Sh.step {s : St α} (h : Sh s) (o : Nat × α) : Sh (stp s o) := by
  obtain ⟨E, D, I, K⟩ := s
  obtain ⟨h1, h2, h3, h4, h5⟩ := h
  dsimp only at h1 h2 h3 h4 h5
  unfold stp
  split
  · dsimp only
    have g2 : Good (E ++ put1 2 D) := h1.snoc fun hd => by
      have := h4 (Or.inl hd)
      exact ⟨this.1, fun hh => this.2 hh.1⟩
    have g3 : Good (E ++ put1 2 D ++ put1 3 I) := g2.snoc fun hi => by
      have := h4 (Or.inr hi)
      rw [lastK_put]
      split
      · exact ⟨this.2, fun hh => by omega⟩
      · exact ⟨by omega, fun hh => by omega⟩
    refine ⟨g3, Or.inr ⟨rfl, rfl⟩, fun _ => ?_, fun hh => by simp at hh, fun hh => by simp at hh⟩
    rw [lastK_put, lastK_put]
    by_cases hi : I = []
    · rw [if_pos hi]
      by_cases hd : D = []
      · rw [if_pos hd]
        by_cases hk : K = []
        · rw [h5 hk hd hi]; simp [lastK]
        · exact h3 hk
      · rw [if_neg hd]; omega
    · rw [if_neg hi]; omega
  · split
    all_goals
      dsimp only
      refine ⟨h1.snoc fun hk => ⟨h3 hk, fun hh => by omega⟩, Or.inl rfl, fun hh => absurd rfl hh, fun _ => ?_, fun _ hh hh2 => by simp at hh hh2⟩
      rw [lastK_put]
      by_cases hk : K = []
      · rw [if_pos hk]
        by_cases hd : D = []
        · by_cases hi : I = []
          · rw [h5 hk hd hi]; simp [lastK]
          · exact h4 (Or.inr hi)
        · exact h4 (Or.inl hd)
      · rw [if_neg hk]; omega
theorem Sh.fin {s : St α} (h : Sh s) : Good (fin s) := by
  obtain ⟨E, D, I, K⟩ := s
  obtain ⟨h1, h2, h3, h4, h5⟩ := h
  dsimp only at h1 h2 h3 h4 h5
  unfold Go.Proofs.YtbeijpajodgpeaaDoor.fin
  dsimp only
  rcases h2 with hk | ⟨hd, hi⟩
  · subst hk
    rw [put1_nil, List.append_nil]
    have g2 : Good (E ++ put1 2 D) := h1.snoc fun hd => by
      have := h4 (Or.inl hd)
      exact ⟨this.1, fun hh => this.2 hh.1⟩
    exact g2.snoc fun hi => by
      have := h4 (Or.inr hi)
      rw [lastK_put]
      split
      · exact ⟨this.2, fun hh => by omega⟩
      · exact ⟨by omega, fun hh => by omega⟩
  · subst hd; subst hi
    rw [put1_nil, put1_nil, List.append_nil, List.append_nil]
    exact h1.snoc fun hk => ⟨h3 hk, fun hh => by omega⟩
theorem Sh.fold : ∀ (l : List (Nat × α)) (s : St α), Sh s → Sh (l.foldl stp s)
  | [], s, h => h
  | o :: l, s, h => Sh.fold l _ (h.step o)
theorem edits_good (x y : List α) : Good (edits x y) :=
  (Sh.fold (scr x y) ⟨[], [], [], []⟩ ⟨Good.nil, Or.inl rfl, fun h => absurd rfl h, fun h => by simp at h, fun _ _ _ => rfl⟩).fin
end

/-! ### Lines -/
/-- the lines of a text, each with its end -/
def lnl : List UInt8 → List (List UInt8)
  | [] => []
  | c :: t => if c = 10 then [10] :: lnl t else match lnl t with
    | [] => [[c]]
    | l :: r => (c :: l) :: r
theorem lnl_hit : ∀ (p t : List UInt8), 10 ∉ p → lnl (p ++ 10 :: t) = (p ++ [10]) :: lnl t
  | [], t, _ => by simp [lnl]
  | c :: p, t, h => by
    have h1 : ¬ c = 10 := fun e => h (by simp [e])
    have := lnl_hit p t (fun hh => h (List.mem_cons_of_mem _ hh))
    rw [List.cons_append, lnl, if_neg h1, this]
    rfl
theorem lnl_miss : ∀ (p : List UInt8), 10 ∉ p → p ≠ [] → lnl p = [p]
  | [], _, h => absurd rfl h
  | [c], h, _ => by
    have h1 : ¬ c = 10 := fun e => h (by simp [e])
    rw [lnl, if_neg h1]; rfl
  | c :: d :: p, h, _ => by
    have h1 : ¬ c = 10 := fun e => h (by simp [e])
    have := lnl_miss (d :: p) (fun hh => h (List.mem_cons_of_mem _ hh)) (by simp)
    rw [lnl, if_neg h1, this]
theorem lnl_length : ∀ l : List UInt8, (lnl l).length ≤ l.length
  | [] => by simp [lnl]
  | c :: t => by
    have := lnl_length t
    rw [lnl]
    split
    · simp; omega
    · split <;> simp_all <;> omega
theorem lnl_flatten : ∀ l : List UInt8, (lnl l).flatten = l
  | [] => rfl
  | c :: t => by
    have := lnl_flatten t
    rw [lnl]
    split
    · rename_i h; subst h; simp [this]
    · split
      · rename_i h; rw [h] at this; simp at this; subst this; rfl
      · rename_i l r h; rw [h] at this; simp only [List.flatten_cons] at *; rw [List.cons_append, this]
/-- the lines, as strings -/
def LN (s : ByteArray) : List ByteArray := (lnl s.data.toList).map fun l => ⟨l.toArray⟩
theorem LN_length (s : ByteArray) : (LN s).length ≤ s.size := by
  unfold LN
  rw [List.length_map]
  exact lnl_length _
end Go.Proofs.YtbeijpajodgpeaaDoor
