/- The difference of two lists of lines, in plain Lean: no program stands here. -/
import Derived.Test.YtbeijpajodgpeaaDoorGr
namespace Go.Proofs.YtbeijpajodgpeaaDoor
set_option linter.unusedSimpArgs false
set_option linter.unusedVariables false
set_option linter.unusedSectionVars false

section
variable {α : Type} [DecidableEq α]

def lcs : List α → List α → Nat
  | [], _ => 0
  | _ :: _, [] => 0
  | a :: x, b :: y => if a = b then lcs x y + 1 else max (lcs x (b :: y)) (lcs (a :: x) y)
termination_by x y => x.length + y.length

theorem lcs_nil (x : List α) : lcs x [] = 0 := by cases x <;> simp [lcs]
theorem nil_lcs (x : List α) : lcs [] x = 0 := by simp [lcs]

theorem lcs_le (x : List α) : ∀ y : List α, lcs x y ≤ x.length ∧ lcs x y ≤ y.length := by
  suffices h : ∀ n (x y : List α), x.length + y.length ≤ n → lcs x y ≤ x.length ∧ lcs x y ≤ y.length from fun y => h _ x y (Nat.le_refl _)
  intro n
  induction n with
  | zero => intro x y h; cases x with
    | nil => simp [lcs]
    | cons a x => simp at h
  | succ n ih =>
    intro x y h
    cases x with
    | nil => simp [lcs]
    | cons a x =>
      cases y with
      | nil => simp [lcs]
      | cons b y =>
        simp only [List.length_cons] at h
        have h1 := ih x y (by omega)
        have h2 := ih x (b :: y) (by simp only [List.length_cons]; omega)
        have h3 := ih (a :: x) y (by simp only [List.length_cons]; omega)
        simp only [List.length_cons] at h2 h3
        rw [lcs]
        simp only [List.length_cons]
        split <;> omega

theorem lcs_comm (x : List α) : ∀ y : List α, lcs x y = lcs y x := by
  suffices h : ∀ n (x y : List α), x.length + y.length ≤ n → lcs x y = lcs y x from fun y => h _ x y (Nat.le_refl _)
  intro n
  induction n with
  | zero => intro x y h; cases x with
    | nil => rw [lcs_nil, nil_lcs]
    | cons a x => simp at h
  | succ n ih =>
    intro x y h
    cases x with
    | nil => rw [lcs_nil, nil_lcs]
    | cons a x =>
      cases y with
      | nil => rw [lcs_nil, nil_lcs]
      | cons b y =>
        simp only [List.length_cons] at h
        have h1 := ih x y (by omega)
        have h2 := ih x (b :: y) (by simp only [List.length_cons]; omega)
        have h3 := ih (a :: x) y (by simp only [List.length_cons]; omega)
        rw [lcs, lcs]
        by_cases e : a = b
        · rw [if_pos e, if_pos e.symm, h1]
        · rw [if_neg e, if_neg (fun h => e h.symm), h2, h3, Nat.max_comm]

theorem lcs_self (x : List α) : lcs x x = x.length := by
  induction x with
  | nil => simp [lcs]
  | cons a x ih => rw [lcs, if_pos rfl, ih, List.length_cons]

/-- the script, line by line: 1 keep, 2 delete, 3 insert -/
def scr : List α → List α → List (Nat × α)
  | [], [] => []
  | a :: x, [] => (2, a) :: scr x []
  | [], b :: y => (3, b) :: scr [] y
  | a :: x, b :: y => if a = b then (1, a) :: scr x y else if lcs (a :: x) y ≤ lcs x (b :: y) then (2, a) :: scr x (b :: y) else (3, b) :: scr (a :: x) y
termination_by x y => x.length + y.length

structure St (α : Type) where
  E : List (Nat × List α)
  D : List α
  I : List α
  K : List α

def put1 (k : Nat) (l : List α) : List (Nat × List α) := if l = [] then [] else [(k, l)]
def stp (s : St α) (o : Nat × α) : St α :=
  if o.1 = 1 then ⟨s.E ++ put1 2 s.D ++ put1 3 s.I, [], [], s.K ++ [o.2]⟩
  else if o.1 = 2 then ⟨s.E ++ put1 1 s.K, s.D ++ [o.2], s.I, []⟩
  else ⟨s.E ++ put1 1 s.K, s.D, s.I ++ [o.2], []⟩
def fin (s : St α) : List (Nat × List α) := s.E ++ put1 1 s.K ++ put1 2 s.D ++ put1 3 s.I
def run (s : St α) (l : List (Nat × α)) : List (Nat × List α) := fin (l.foldl stp s)
def edits (x y : List α) : List (Nat × List α) := run ⟨[], [], [], []⟩ (scr x y)

theorem put1_nil (k : Nat) : put1 k ([] : List α) = [] := rfl
theorem run_nil (s : St α) : run s [] = fin s := rfl
theorem run_cons (s : St α) (o : Nat × α) (l : List (Nat × α)) : run s (o :: l) = run (stp s o) l := rfl

theorem scr_hit {x y : List α} {i j : Nat} (hi : i < x.length) (hj : j < y.length) (h : x[i] = y[j]) : scr (x.drop i) (y.drop j) = (1, x[i]) :: scr (x.drop (i + 1)) (y.drop (j + 1)) := by
  rw [List.drop_eq_getElem_cons hi, List.drop_eq_getElem_cons hj, scr, if_pos h]
theorem scr_del {x y : List α} {i j : Nat} (hi : i < x.length) (hj : j < y.length) (h : x[i] ≠ y[j]) (hl : lcs (x.drop i) (y.drop (j + 1)) ≤ lcs (x.drop (i + 1)) (y.drop j)) :
    scr (x.drop i) (y.drop j) = (2, x[i]) :: scr (x.drop (i + 1)) (y.drop j) := by
  rw [List.drop_eq_getElem_cons hi, List.drop_eq_getElem_cons hj] at *
  rw [scr, if_neg h, if_pos hl]
theorem scr_ins {x y : List α} {i j : Nat} (hi : i < x.length) (hj : j < y.length) (h : x[i] ≠ y[j]) (hl : ¬ lcs (x.drop i) (y.drop (j + 1)) ≤ lcs (x.drop (i + 1)) (y.drop j)) :
    scr (x.drop i) (y.drop j) = (3, y[j]) :: scr (x.drop i) (y.drop (j + 1)) := by
  rw [List.drop_eq_getElem_cons hi, List.drop_eq_getElem_cons hj] at *
  rw [scr, if_neg h, if_neg hl]
theorem scr_del_end {x y : List α} {i j : Nat} (hi : i < x.length) (hj : y.length ≤ j) : scr (x.drop i) (y.drop j) = (2, x[i]) :: scr (x.drop (i + 1)) (y.drop j) := by
  rw [List.drop_eq_getElem_cons hi, List.drop_eq_nil_of_le hj, scr]
theorem scr_ins_end {x y : List α} {i j : Nat} (hi : x.length ≤ i) (hj : j < y.length) : scr (x.drop i) (y.drop j) = (3, y[j]) :: scr (x.drop i) (y.drop (j + 1)) := by
  rw [List.drop_eq_getElem_cons hj, List.drop_eq_nil_of_le hi, scr]
theorem scr_end {x y : List α} {i j : Nat} (hi : x.length ≤ i) (hj : y.length ≤ j) : scr (x.drop i) (y.drop j) = [] := by
  rw [List.drop_eq_nil_of_le hi, List.drop_eq_nil_of_le hj, scr]

/-- a run of kept lines is over: what is kept may be put at once -/
theorem run_kept (E : List (Nat × List α)) (K : List α) (l : List (Nat × α)) (h : ∀ o r, l = o :: r → o.1 ≠ 1) : run ⟨E, [], [], K⟩ l = run ⟨E ++ put1 1 K, [], [], []⟩ l := by
  cases l with
  | nil => simp [run, fin, put1_nil]
  | cons o r =>
    have := h o r rfl
    simp only [run_cons]
    congr 1
    simp [stp, this, put1_nil]
/-- a run of changed lines is over -/
theorem run_changed (E : List (Nat × List α)) (D I : List α) (l : List (Nat × α)) (h : ∀ o r, l = o :: r → o.1 = 1) : run ⟨E, D, I, []⟩ l = run ⟨E ++ put1 2 D ++ put1 3 I, [], [], []⟩ l := by
  cases l with
  | nil => simp [run, fin, put1_nil]
  | cons o r =>
    have := h o r rfl
    simp only [run_cons]
    congr 1
    simp [stp, this, put1_nil]

theorem scr_self (x : List α) : scr x x = x.map fun a => (1, a) := by
  induction x with
  | nil => simp [scr]
  | cons a x ih => rw [scr, if_pos rfl, ih, List.map_cons]
theorem fold_keeps (x : List α) : ∀ K : List α, (x.map fun a => (1, a)).foldl stp (⟨[], [], [], K⟩ : St α) = ⟨[], [], [], K ++ x⟩ := by
  induction x with
  | nil => intro K; simp
  | cons a x ih =>
    intro K
    rw [List.map_cons, List.foldl_cons]
    have : stp (⟨[], [], [], K⟩ : St α) (1, a) = ⟨[], [], [], K ++ [a]⟩ := by simp [stp, put1_nil]
    rw [this, ih]
    simp
theorem edits_self (x : List α) : edits x x = put1 1 x := by
  unfold edits run
  rw [scr_self, fold_keeps]
  simp [fin, put1_nil]

/-! ### The cost -/
def cost (l : List (Nat × List α)) : Nat := (l.map fun e => if e.1 = 2 ∨ e.1 = 3 then e.2.length else 0).sum
theorem cost_append (a b : List (Nat × List α)) : cost (a ++ b) = cost a + cost b := by simp [cost]
theorem cost_put (k : Nat) (l : List α) : cost (put1 k l) = if k = 2 ∨ k = 3 then l.length else 0 := by
  unfold put1
  by_cases h : l = []
  · subst h; simp [cost]
  · rw [if_neg h]; simp [cost]
theorem cost_step (s : St α) (o : Nat × α) (h : o.1 = 1 ∨ o.1 = 2 ∨ o.1 = 3) : cost (fin (stp s o)) = cost (fin s) + if o.1 = 1 then 0 else 1 := by
  rcases h with h | h | h <;> simp [stp, fin, h, cost_append, cost_put] <;> omega
theorem scr_kinds (x : List α) : ∀ y : List α, ∀ o ∈ scr x y, o.1 = 1 ∨ o.1 = 2 ∨ o.1 = 3 := by
  suffices h : ∀ n (x y : List α), x.length + y.length ≤ n → ∀ o ∈ scr x y, o.1 = 1 ∨ o.1 = 2 ∨ o.1 = 3 from fun y => h _ x y (Nat.le_refl _)
  intro n
  induction n with
  | zero => intro x y h; cases x with
    | nil => cases y with
      | nil => intro o ho; simp [scr] at ho
      | cons b y => simp at h
    | cons a x => simp at h
  | succ n ih =>
    intro x y h o ho
    cases x with
    | nil => cases y with
      | nil => simp [scr] at ho
      | cons b y =>
        simp only [List.length_cons, List.length_nil] at h
        rw [scr] at ho
        rcases List.mem_cons.1 ho with rfl | ho
        · simp
        · exact ih [] y (by simp only [List.length_nil]; omega) o ho
    | cons a x => cases y with
      | nil =>
        simp only [List.length_cons, List.length_nil] at h
        rw [scr] at ho
        rcases List.mem_cons.1 ho with rfl | ho
        · simp
        · exact ih x [] (by simp only [List.length_nil]; omega) o ho
      | cons b y =>
        simp only [List.length_cons] at h
        rw [scr] at ho
        split at ho
        · rcases List.mem_cons.1 ho with rfl | ho
          · simp
          · exact ih x y (by omega) o ho
        · split at ho
          · rcases List.mem_cons.1 ho with rfl | ho
            · simp
            · exact ih x (b :: y) (by simp only [List.length_cons]; omega) o ho
          · rcases List.mem_cons.1 ho with rfl | ho
            · simp
            · exact ih (a :: x) y (by simp only [List.length_cons]; omega) o ho
theorem cost_fold : ∀ (l : List (Nat × α)) (s : St α), (∀ o ∈ l, o.1 = 1 ∨ o.1 = 2 ∨ o.1 = 3) → cost (run s l) = cost (fin s) + (l.filter fun o => o.1 ≠ 1).length
  | [], s, _ => by simp [run]
  | o :: l, s, h => by
    rw [run_cons, cost_fold l _ (fun q hq => h q (List.mem_cons_of_mem _ hq)), cost_step s o (h o (List.mem_cons_self ..)), List.filter_cons]
    by_cases h1 : o.1 = 1 <;> simp [h1] <;> omega
theorem scr_count (x : List α) : ∀ y : List α, ((scr x y).filter fun o => o.1 ≠ 1).length + 2 * lcs x y = x.length + y.length := by
  suffices h : ∀ n (x y : List α), x.length + y.length ≤ n → ((scr x y).filter fun o => o.1 ≠ 1).length + 2 * lcs x y = x.length + y.length from fun y => h _ x y (Nat.le_refl _)
  intro n
  induction n with
  | zero => intro x y h; cases x with
    | nil => cases y with
      | nil => simp [scr, lcs]
      | cons b y => simp at h
    | cons a x => simp at h
  | succ n ih =>
    intro x y h
    cases x with
    | nil => cases y with
      | nil => simp [scr, lcs]
      | cons b y =>
        simp only [List.length_cons, List.length_nil] at h
        have := ih [] y (by simp only [List.length_nil]; omega)
        rw [scr, List.filter_cons, if_pos (by simp)]
        rw [nil_lcs] at *
        simp only [List.length_cons, List.length_nil] at *
        omega
    | cons a x => cases y with
      | nil =>
        simp only [List.length_cons, List.length_nil] at h
        have := ih x [] (by simp only [List.length_nil]; omega)
        rw [scr, List.filter_cons, if_pos (by simp)]
        rw [lcs_nil] at *
        simp only [List.length_cons, List.length_nil] at *
        omega
      | cons b y =>
        simp only [List.length_cons] at h
        rw [scr, lcs]
        by_cases e : a = b
        · have := ih x y (by omega)
          rw [if_pos e, if_pos e, List.filter_cons, if_neg (by simp)]
          simp only [List.length_cons]
          omega
        · rw [if_neg e, if_neg e]
          by_cases hl : lcs (a :: x) y ≤ lcs x (b :: y)
          · have := ih x (b :: y) (by simp only [List.length_cons]; omega)
            rw [if_pos hl, List.filter_cons, if_pos (by simp)]
            simp only [List.length_cons] at *
            omega
          · have := ih (a :: x) y (by simp only [List.length_cons]; omega)
            rw [if_neg hl, List.filter_cons, if_pos (by simp)]
            simp only [List.length_cons] at *
            omega
theorem cost_edits (x y : List α) : cost (edits x y) + 2 * lcs x y = x.length + y.length := by
  have h := cost_fold (scr x y) ⟨[], [], [], []⟩ (scr_kinds x y)
  have h2 : cost (fin (⟨[], [], [], []⟩ : St α)) = 0 := by simp [fin, put1_nil, cost]
  rw [h2] at h
  unfold edits
  have := scr_count x y
  omega
end
end Go.Proofs.YtbeijpajodgpeaaDoor
