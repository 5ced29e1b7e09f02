/- What edits make of lines, and their inverse, in plain Lean. -/
import Derived.Test.YtakbpdlfgjfbeaaDoorSE
import Derived.Test.YtakbpdlfgjfbeaaDoorDP5
namespace Go.Proofs.YtakbpdlfgjfbeaaDoor
set_option linter.unusedSimpArgs false
set_option linter.unusedVariables false

/-- the lines that edits take, and those that they give -/
def srcE (E : List Ed) : List ByteArray := (E.map fun e => if e.1 = 3 then [] else e.2).flatten
def dstE (E : List Ed) : List ByteArray := (E.map fun e => if e.1 = 2 then [] else e.2).flatten
def okK (E : List Ed) : Prop := ∀ e ∈ E, 1 ≤ e.1 ∧ e.1 ≤ 3
/-- lines, put together -/
def cat (L : List ByteArray) : ByteArray := L.foldl (· ++ ·) ByteArray.empty
theorem ba_append (a b : ByteArray) : (a ++ b).data.toList = a.data.toList ++ b.data.toList := by simp
theorem ba_ext {a b : ByteArray} (h : a.data.toList = b.data.toList) : a = b := ByteArray.ext (Array.toList_inj.1 h)
theorem cat_data (L : List ByteArray) : (cat L).data.toList = (L.map (·.data.toList)).flatten := by
  have key : ∀ (L : List ByteArray) (s : ByteArray), (L.foldl (· ++ ·) s).data.toList = s.data.toList ++ (L.map (·.data.toList)).flatten := by
    intro L
    induction L with
    | nil => intro s; simp
    | cons x r ih => intro s; rw [List.foldl_cons, ih, ba_append]; simp
  unfold cat
  rw [key]
  simp
theorem cat_nil : cat [] = ByteArray.empty := rfl
theorem cat_snoc (L : List ByteArray) (x : ByteArray) : cat (L ++ [x]) = cat L ++ x := by unfold cat; rw [List.foldl_append]; rfl
theorem cat_LN (s : ByteArray) : cat (LN s) = s := by
  apply ba_ext
  rw [cat_data]
  unfold LN
  rw [List.map_map]
  have : ((fun x : ByteArray => x.data.toList) ∘ fun l : List UInt8 => (⟨l.toArray⟩ : ByteArray)) = id := by funext l; simp
  rw [this, List.map_id, lnl_flatten]
theorem LN_inj {s t : ByteArray} (h : LN s = LN t) : s = t := by rw [← cat_LN s, ← cat_LN t, h]
theorem cat_size_append (a b : List ByteArray) : (cat (a ++ b)).size = (cat a).size + (cat b).size := by
  have h : ∀ L : List ByteArray, (cat L).size = ((L.map (·.data.toList)).flatten).length := fun L => by
    rw [← cat_data, Array.length_toList]; rfl
  rw [h, h, h, List.map_append, List.flatten_append, List.length_append]

section
variable {E : List Ed} {i : Nat} {e : Ed}
theorem take_snoc_get (h : E[i]? = some e) : E.take (i + 1) = E.take i ++ [e] := by
  have hi : i < E.length := by
    rcases Nat.lt_or_ge i E.length with h1 | h1
    · exact h1
    · rw [List.getElem?_eq_none h1] at h; cases h
  rw [List.getElem?_eq_getElem hi] at h
  injection h with h
  rw [List.take_succ_eq_append_getElem hi, h]
theorem srcE_snoc (h : E[i]? = some e) : srcE (E.take (i + 1)) = srcE (E.take i) ++ (if e.1 = 3 then [] else e.2) := by
  rw [take_snoc_get h]; simp [srcE]
theorem dstE_snoc (h : E[i]? = some e) : dstE (E.take (i + 1)) = dstE (E.take i) ++ (if e.1 = 2 then [] else e.2) := by
  rw [take_snoc_get h]; simp [dstE]
theorem srcE_split (i : Nat) (E : List Ed) : srcE E = srcE (E.take i) ++ srcE (E.drop i) := by
  unfold srcE
  rw [← List.flatten_append, ← List.map_append, List.take_append_drop]
theorem dstE_split (i : Nat) (E : List Ed) : dstE E = dstE (E.take i) ++ dstE (E.drop i) := by
  unfold dstE
  rw [← List.flatten_append, ← List.map_append, List.take_append_drop]
theorem drop_get (h : E[i]? = some e) : E.drop i = e :: E.drop (i + 1) := by
  have hi : i < E.length := by
    rcases Nat.lt_or_ge i E.length with h1 | h1
    · exact h1
    · rw [List.getElem?_eq_none h1] at h; cases h
  rw [List.getElem?_eq_getElem hi] at h
  injection h with h
  rw [List.drop_eq_getElem_cons hi, h]
theorem srcE_cons (e : Ed) (r : List Ed) : srcE (e :: r) = (if e.1 = 3 then [] else e.2) ++ srcE r := by simp [srcE]
theorem dstE_cons (e : Ed) (r : List Ed) : dstE (e :: r) = (if e.1 = 2 then [] else e.2) ++ dstE r := by simp [dstE]
end
/-- edits apply to the lines X -/
def Applies (X : List ByteArray) (E : List Ed) : Prop := okK E ∧ X = srcE E
open Classical in
/-- what Apply returns -/
noncomputable def apV (X : List ByteArray) (E : List Ed) : Value := if Applies X E then .tuple #[.string (cat (dstE E)), .int .i64 0] else .tuple #[.string ByteArray.empty, .int .i64 9]
theorem apV_yes {X : List ByteArray} {E : List Ed} (h : Applies X E) : apV X E = .tuple #[.string (cat (dstE E)), .int .i64 0] := by unfold apV; rw [if_pos h]
theorem apV_no {X : List ByteArray} {E : List Ed} (h : ¬ Applies X E) : apV X E = .tuple #[.string ByteArray.empty, .int .i64 9] := by unfold apV; rw [if_neg h]
/-- so far: the first i edits are of a kind, and X begins with what they take -/
def Sofar (X : List ByteArray) (E : List Ed) (i : Nat) (R : List ByteArray) : Prop := okK (E.take i) ∧ X = srcE (E.take i) ++ R
theorem Sofar.start (X : List ByteArray) (E : List Ed) : Sofar X E 0 X := ⟨fun e h => by simp at h, by simp [srcE]⟩
theorem Sofar.bad {X : List ByteArray} {E : List Ed} {i : Nat} {e : Ed} (he : E[i]? = some e) (hk : e.1 < 1 ∨ 3 < e.1) : ¬ Applies X E := by
  rintro ⟨h, _⟩
  have := h e (List.mem_of_getElem? he)
  omega
theorem Sofar.miss {X : List ByteArray} {E : List Ed} {i : Nat} {e : Ed} {R : List ByteArray} (h : Sofar X E i R) (he : E[i]? = some e) (hk : e.1 ≠ 3) (hm : R.take e.2.length ≠ e.2) : ¬ Applies X E := by
  rintro ⟨_, hx⟩
  rw [srcE_split i E, drop_get he, srcE_cons, if_neg hk, h.2] at hx
  have hR := List.append_cancel_left hx
  rw [hR] at hm
  exact hm (by rw [List.take_left])
theorem Sofar.rest {X : List ByteArray} {E : List Ed} {R : List ByteArray} (h : Sofar X E E.length R) (hR : R ≠ []) : ¬ Applies X E := by
  rintro ⟨_, hx⟩
  have h2 := h.2
  rw [List.take_of_length_le (Nat.le_refl _)] at h2
  rw [h2] at hx
  have : (srcE E ++ R).length = (srcE E).length := by rw [hx]
  rw [List.length_append] at this
  exact hR (List.eq_nil_of_length_eq_zero (by omega))
theorem Sofar.done {X : List ByteArray} {E : List Ed} (h : Sofar X E E.length []) : Applies X E := by
  obtain ⟨h1, h2⟩ := h
  rw [List.take_of_length_le (Nat.le_refl _)] at h1 h2
  exact ⟨h1, by rw [h2, List.append_nil]⟩
theorem okK_snoc {E : List Ed} {i : Nat} {e : Ed} (h : okK (E.take i)) (he : E[i]? = some e) (hk : 1 ≤ e.1 ∧ e.1 ≤ 3) : okK (E.take (i + 1)) := by
  rw [take_snoc_get he]
  intro x hx
  rcases List.mem_append.1 hx with hx | hx
  · exact h x hx
  · rw [List.mem_singleton.1 hx]; exact hk
theorem Sofar.skip {X : List ByteArray} {E : List Ed} {i : Nat} {e : Ed} {R : List ByteArray} (h : Sofar X E i R) (he : E[i]? = some e) (hk : e.1 = 3) : Sofar X E (i + 1) R :=
  ⟨okK_snoc h.1 he (by omega), by rw [srcE_snoc he, if_pos hk, List.append_nil]; exact h.2⟩
theorem Sofar.take {X : List ByteArray} {E : List Ed} {i : Nat} {e : Ed} {R : List ByteArray} (h : Sofar X E i R) (he : E[i]? = some e) (hk : 1 ≤ e.1 ∧ e.1 ≤ 3) (h3 : e.1 ≠ 3) (hm : R.take e.2.length = e.2) : Sofar X E (i + 1) (R.drop e.2.length) :=
  ⟨okK_snoc h.1 he hk, by rw [srcE_snoc he, if_neg h3, h.2, List.append_assoc]; congr 1; conv => lhs; rw [← List.take_append_drop e.2.length R, hm]⟩

/-! ### The edits of two texts -/
theorem src_app (a b : List (Nat × List ByteArray)) : srcE (EI (a ++ b)) = srcE (EI a) ++ srcE (EI b) := by rw [EI_append]; simp [srcE]
theorem dst_app (a b : List (Nat × List ByteArray)) : dstE (EI (a ++ b)) = dstE (EI a) ++ dstE (EI b) := by rw [EI_append]; simp [dstE]
theorem src_put (k : Nat) (l : List ByteArray) : srcE (EI (put1 k l)) = if k = 3 then [] else l := by
  unfold put1
  by_cases h : l = []
  · subst h; simp [EI, srcE]
  · rw [if_neg h]
    by_cases hk : k = 3
    · subst hk; simp [EI, srcE]
    · have : ¬ ((k : Int) = 3) := by omega
      simp [EI, srcE, hk, this]
theorem dst_put (k : Nat) (l : List ByteArray) : dstE (EI (put1 k l)) = if k = 2 then [] else l := by
  unfold put1
  by_cases h : l = []
  · subst h; simp [EI, dstE]
  · rw [if_neg h]
    by_cases hk : k = 2
    · subst hk; simp [EI, dstE]
    · have : ¬ ((k : Int) = 2) := by omega
      simp [EI, dstE, hk, this]
/-- one of D, I and K: what was kept and what was changed never wait together -/
def Apart (s : St ByteArray) : Prop := s.K = [] ∨ (s.D = [] ∧ s.I = [])
theorem Apart.step {s : St ByteArray} (h : Apart s) (o : Nat × ByteArray) : Apart (stp s o) := by
  unfold stp Apart
  split
  · right; exact ⟨rfl, rfl⟩
  · split <;> (left; rfl)
theorem src_step {s : St ByteArray} (h : Apart s) {o : Nat × ByteArray} (ho : o.1 = 1 ∨ o.1 = 2 ∨ o.1 = 3) : srcE (EI (fin (stp s o))) = srcE (EI (fin s)) ++ (if o.1 = 3 then [] else [o.2]) := by
  obtain ⟨E, D, I, K⟩ := s
  rcases h with h | ⟨h1, h2⟩
  · have h' : K = [] := h
    subst h'
    rcases ho with ho | ho | ho <;> simp [fin, stp, ho, src_app, src_put, put1_nil]
  · have h1' : D = [] := h1
    have h2' : I = [] := h2
    subst h1' h2'
    rcases ho with ho | ho | ho <;> simp [fin, stp, ho, src_app, src_put, put1_nil]
theorem dst_step {s : St ByteArray} (h : Apart s) {o : Nat × ByteArray} (ho : o.1 = 1 ∨ o.1 = 2 ∨ o.1 = 3) : dstE (EI (fin (stp s o))) = dstE (EI (fin s)) ++ (if o.1 = 2 then [] else [o.2]) := by
  obtain ⟨E, D, I, K⟩ := s
  rcases h with h | ⟨h1, h2⟩
  · have h' : K = [] := h
    subst h'
    rcases ho with ho | ho | ho <;> simp [fin, stp, ho, dst_app, dst_put, put1_nil]
  · have h1' : D = [] := h1
    have h2' : I = [] := h2
    subst h1' h2'
    rcases ho with ho | ho | ho <;> simp [fin, stp, ho, dst_app, dst_put, put1_nil]
theorem src_run : ∀ (l : List (Nat × ByteArray)) (s : St ByteArray), Apart s → (∀ o ∈ l, o.1 = 1 ∨ o.1 = 2 ∨ o.1 = 3) → srcE (EI (run s l)) = srcE (EI (fin s)) ++ (l.map fun o => if o.1 = 3 then [] else [o.2]).flatten
  | [], s, _, _ => by simp [run]
  | o :: l, s, h, hl => by
    rw [run_cons, src_run l _ (h.step o) (fun q hq => hl q (List.mem_cons_of_mem _ hq)), src_step h (hl o (List.mem_cons_self ..))]
    simp
theorem dst_run : ∀ (l : List (Nat × ByteArray)) (s : St ByteArray), Apart s → (∀ o ∈ l, o.1 = 1 ∨ o.1 = 2 ∨ o.1 = 3) → dstE (EI (run s l)) = dstE (EI (fin s)) ++ (l.map fun o => if o.1 = 2 then [] else [o.2]).flatten
  | [], s, _, _ => by simp [run]
  | o :: l, s, h, hl => by
    rw [run_cons, dst_run l _ (h.step o) (fun q hq => hl q (List.mem_cons_of_mem _ hq)), dst_step h (hl o (List.mem_cons_self ..))]
    simp
theorem scr_src (x : List ByteArray) : ∀ y : List ByteArray, ((scr x y).map fun o => if o.1 = 3 then [] else [o.2]).flatten = x ∧ ((scr x y).map fun o => if o.1 = 2 then [] else [o.2]).flatten = y := by
  suffices h : ∀ n (x y : List ByteArray), x.length + y.length ≤ n → ((scr x y).map fun o => if o.1 = 3 then [] else [o.2]).flatten = x ∧ ((scr x y).map fun o => if o.1 = 2 then [] else [o.2]).flatten = y from fun y => h _ x y (Nat.le_refl _)
  intro n
  induction n with
  | zero =>
    intro x y h
    cases x with
    | nil => cases y with
      | nil => simp [scr]
      | cons b y => simp at h
    | cons a x => simp at h
  | succ n ih =>
    intro x y h
    cases x with
    | nil => cases y with
      | nil => simp [scr]
      | cons b y =>
        simp only [List.length_cons, List.length_nil] at h
        obtain ⟨h1, h2⟩ := ih [] y (by simp only [List.length_nil]; omega)
        rw [scr, List.map_cons, List.map_cons, List.flatten_cons, List.flatten_cons, h1, h2]
        simp
    | cons a x => cases y with
      | nil =>
        simp only [List.length_cons, List.length_nil] at h
        obtain ⟨h1, h2⟩ := ih x [] (by simp only [List.length_nil]; omega)
        rw [scr, List.map_cons, List.map_cons, List.flatten_cons, List.flatten_cons, h1, h2]
        simp
      | cons b y =>
        simp only [List.length_cons] at h
        rw [scr]
        split
        · rename_i e
          obtain ⟨h1, h2⟩ := ih x y (by omega)
          rw [List.map_cons, List.map_cons, List.flatten_cons, List.flatten_cons, h1, h2]
          simp [e]
        · split
          · obtain ⟨h1, h2⟩ := ih x (b :: y) (by simp only [List.length_cons]; omega)
            rw [List.map_cons, List.map_cons, List.flatten_cons, List.flatten_cons, h1, h2]
            simp
          · obtain ⟨h1, h2⟩ := ih (a :: x) y (by simp only [List.length_cons]; omega)
            rw [List.map_cons, List.map_cons, List.flatten_cons, List.flatten_cons, h1, h2]
            simp
theorem edits_src (x y : List ByteArray) : srcE (EI (edits x y)) = x ∧ dstE (EI (edits x y)) = y := by
  have h := scr_src x y
  unfold edits
  rw [src_run _ _ (Or.inl rfl) (scr_kinds x y), dst_run _ _ (Or.inl rfl) (scr_kinds x y), h.1, h.2]
  simp [fin, put1_nil, EI, srcE, dstE]
def okN (l : List (Nat × List ByteArray)) : Prop := ∀ e ∈ l, e.1 = 1 ∨ e.1 = 2 ∨ e.1 = 3
theorem okN_app {a b : List (Nat × List ByteArray)} (ha : okN a) (hb : okN b) : okN (a ++ b) := fun e he => (List.mem_append.1 he).elim (ha e) (hb e)
theorem okN_put {k : Nat} (h : k = 1 ∨ k = 2 ∨ k = 3) (l : List ByteArray) : okN (put1 k l) := by
  intro e he
  unfold put1 at he
  split at he
  · simp at he
  · rw [List.mem_singleton.1 he]; exact h
theorem edits_ok (x y : List ByteArray) : okK (EI (edits x y)) := by
  have key : ∀ (l : List (Nat × ByteArray)) (s : St ByteArray), okN s.E → okN (run s l) := by
    intro l
    induction l with
    | nil => intro s h; exact okN_app (okN_app (okN_app h (okN_put (by omega) _)) (okN_put (by omega) _)) (okN_put (by omega) _)
    | cons o l ih =>
      intro s h
      rw [run_cons]
      apply ih
      unfold stp
      split
      · exact okN_app (okN_app h (okN_put (by omega) _)) (okN_put (by omega) _)
      · split <;> exact okN_app h (okN_put (by omega) _)
  have h := key (scr x y) ⟨[], [], [], []⟩ (fun e he => by simp at he)
  intro e he
  unfold EI at he
  obtain ⟨f, hf, rfl⟩ := List.mem_map.1 he
  have := h f hf
  show 1 ≤ (f.1 : Int) ∧ (f.1 : Int) ≤ 3
  omega
theorem applies_edits (x y : List ByteArray) : Applies x (EI (edits x y)) := ⟨edits_ok x y, (edits_src x y).1.symm⟩
theorem applies_iff (z x y : List ByteArray) : Applies z (EI (edits x y)) ↔ z = x := ⟨fun h => h.2.trans (edits_src x y).1, fun h => h ▸ applies_edits x y⟩

/-! ### The inverse -/
def exK (k : Int) : Int := if k = 2 then 3 else if k = 3 then 2 else k
def ex (e : Ed) : Ed := (exK e.1, e.2)
def inv : List Ed → List Ed
  | [] => []
  | [a] => [ex a]
  | a :: b :: r => if a.1 = 2 ∧ b.1 = 3 then ex b :: ex a :: inv r else ex a :: inv (b :: r)
theorem exK_ok {k : Int} (h : 1 ≤ k ∧ k ≤ 3) : 1 ≤ exK k ∧ exK k ≤ 3 := by
  unfold exK
  split
  · omega
  · split <;> omega
theorem exK_exK (k : Int) : exK (exK k) = k := by
  unfold exK
  by_cases h2 : k = 2
  · subst h2; rfl
  · by_cases h3 : k = 3
    · subst h3; rfl
    · simp [h2, h3]
theorem ex_ex (e : Ed) : ex (ex e) = e := by unfold ex; rw [exK_exK]
theorem inv_ok : ∀ {E : List Ed}, okK E → okK (inv E)
  | [], _ => by intro e he; simp [inv] at he
  | [a], h => by
    intro e he
    rw [inv] at he
    rw [List.mem_singleton.1 he]
    exact exK_ok (h a (List.mem_singleton.2 rfl))
  | a :: b :: r, h => by
    have h0 : okK (inv r) := inv_ok fun e he => h e (List.mem_cons_of_mem _ (List.mem_cons_of_mem _ he))
    have h1 : okK (inv (b :: r)) := inv_ok fun e he => h e (List.mem_cons_of_mem _ he)
    intro e he
    rw [inv] at he
    split at he
    · rcases List.mem_cons.1 he with rfl | he
      · exact exK_ok (h b (by simp))
      · rcases List.mem_cons.1 he with rfl | he
        · exact exK_ok (h a (by simp))
        · exact h0 e he
    · rcases List.mem_cons.1 he with rfl | he
      · exact exK_ok (h a (by simp))
      · exact h1 e he
theorem ex_src (a : Ed) : (if (ex a).1 = 3 then [] else (ex a).2) = (if a.1 = 2 then [] else a.2) := by
  unfold ex exK
  by_cases h2 : a.1 = 2
  · simp [h2]
  · by_cases h3 : a.1 = 3
    · simp [h3]
    · simp [h2, h3]
theorem ex_dst (a : Ed) : (if (ex a).1 = 2 then [] else (ex a).2) = (if a.1 = 3 then [] else a.2) := by
  unfold ex exK
  by_cases h2 : a.1 = 2
  · simp [h2]
  · by_cases h3 : a.1 = 3
    · simp [h3]
    · simp [h2, h3]
theorem inv_src : ∀ (E : List Ed), srcE (inv E) = dstE E ∧ dstE (inv E) = srcE E
  | [] => by simp [inv, srcE, dstE]
  | [a] => by
    rw [inv, srcE_cons, dstE_cons, srcE_cons, dstE_cons, ex_src, ex_dst]
    simp [srcE, dstE]
  | a :: b :: r => by
    have h0 := inv_src r
    have h1 := inv_src (b :: r)
    rw [inv]
    split
    · rename_i h
      refine ⟨?_, ?_⟩
      · rw [srcE_cons, srcE_cons, h0.1, ex_src, ex_src, dstE_cons, dstE_cons, h.1, h.2]
        simp
      · rw [dstE_cons, dstE_cons, h0.2, ex_dst, ex_dst, srcE_cons, srcE_cons, h.1, h.2]
        simp
    · refine ⟨?_, ?_⟩
      · rw [srcE_cons, h1.1, ex_src, dstE_cons a]
      · rw [dstE_cons, h1.2, ex_dst, srcE_cons a]
/-- no insertion stands ahead of a deletion -/
def Ord : List Ed → Prop
  | [] => True
  | [_] => True
  | a :: b :: r => ¬ (a.1 = 3 ∧ b.1 = 2) ∧ a.1 ≠ b.1 ∧ Ord (b :: r)
theorem inv_head (b : Ed) (r : List Ed) : ∃ c r', inv (b :: r) = c :: r' := by
  cases r with
  | nil => exact ⟨_, _, rfl⟩
  | cons d r => rw [inv]; split <;> exact ⟨_, _, rfl⟩
theorem inv_inv : ∀ {E : List Ed}, Ord E → okK E → inv (inv E) = E
  | [], _, _ => rfl
  | [a], _, _ => by rw [inv, inv, ex_ex]
  | a :: b :: r, h, hk => by
    obtain ⟨h1, h2, h3⟩ := h
    have kb := hk b (by simp)
    have ka := hk a (by simp)
    have hkr : okK r := fun e he => hk e (List.mem_cons_of_mem _ (List.mem_cons_of_mem _ he))
    have hkb : okK (b :: r) := fun e he => hk e (List.mem_cons_of_mem _ he)
    rw [inv]
    split
    · rename_i e
      have e1 : (ex b).1 = 2 := by unfold ex exK; simp [e.2]
      have e2 : (ex a).1 = 3 := by unfold ex exK; simp [e.1]
      have h3' : Ord r := by
        cases r with
        | nil => trivial
        | cons c r => exact h3.2.2
      rw [inv, if_pos ⟨e1, e2⟩, ex_ex, ex_ex, inv_inv h3' hkr]
    · rename_i e
      have ih := inv_inv h3 hkb
      -- what the inverse of the rest begins with
      have hhead : ∀ c r', inv (b :: r) = c :: r' → ¬ ((ex a).1 = 2 ∧ c.1 = 3) := by
        intro c r' hc
        rintro ⟨g1, g2⟩
        have ha : a.1 = 3 := by
          unfold ex exK at g1
          by_cases q2 : a.1 = 2
          · simp [q2] at g1
          · by_cases q3 : a.1 = 3
            · exact q3
            · simp [q2, q3] at g1
        have hb : b.1 = 1 := by
          have n2 : b.1 ≠ 2 := fun q => h1 ⟨ha, q⟩
          have n3 : b.1 ≠ 3 := fun q => h2 (ha.trans q.symm)
          omega
        have hcb : c = ex b := by
          cases r with
          | nil => rw [inv] at hc; injection hc with hc; exact hc.symm
          | cons d r =>
            rw [inv, if_neg (fun q => by omega)] at hc
            injection hc with hc
            exact hc.symm
        rw [hcb] at g2
        unfold ex exK at g2
        simp [hb] at g2
      obtain ⟨c, r', hc⟩ := inv_head b r
      rw [hc, inv, if_neg (hhead c r' hc), ← hc, ih, ex_ex]
theorem ord_of_good : ∀ {l : List (Nat × List ByteArray)}, Good l → Ord (EI l)
  | [], _ => trivial
  | [_], _ => trivial
  | a :: b :: r, h => by
    have h0 := h.2 0 (by simp)
    have h1 : Good (b :: r) := ⟨fun e he => h.1 e (List.mem_cons_of_mem _ he), fun i hi => by
      have := h.2 (i + 1) (by simpa using hi)
      simpa using this⟩
    refine ⟨?_, ?_, ord_of_good h1⟩
    · rintro ⟨g1, g2⟩
      have g1' : (a.1 : Int) = 3 := g1
      have g2' : (b.1 : Int) = 2 := g2
      exact h0.2 ⟨by simp; omega, by simp; omega⟩
    · intro g
      have g' : (a.1 : Int) = (b.1 : Int) := g
      exact h0.1 (by simp; omega)
theorem inv_inv_edits (x y : List ByteArray) : inv (inv (EI (edits x y))) = EI (edits x y) := inv_inv (ord_of_good (edits_good x y)) (edits_ok x y)
theorem inv_len : ∀ (E : List Ed), (inv E).length = E.length
  | [] => rfl
  | [a] => rfl
  | a :: b :: r => by
    have h0 := inv_len r
    have h1 := inv_len (b :: r)
    rw [inv]
    split
    · simp only [List.length_cons, h0]
    · simp only [List.length_cons, h1]
end Go.Proofs.YtakbpdlfgjfbeaaDoor
