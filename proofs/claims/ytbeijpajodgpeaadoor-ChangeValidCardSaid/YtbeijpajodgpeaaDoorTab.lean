/- Tables in memory: an outer row of slices, rows of numbers. -/
import Derived.Test.YtbeijpajodgpeaaDoorSS
import Derived.Test.YtbeijpajodgpeaaDoorWords2
import Derived.Test.YtbeijpajodgpeaaDoorDP2
namespace Go.Proofs.YtbeijpajodgpeaaDoor
open Go.RowKit
set_option linter.unusedSimpArgs false
set_option linter.unusedVariables false

/-- n cells, told by a function -/
def rowZ (n : Nat) (f : Nat → Value) : Array Value := ((List.range n).map f).toArray
theorem rowZ_get (n : Nat) (f : Nat → Value) (j : Nat) : (rowZ n f)[j]? = if j < n then some (f j) else none := by
  unfold rowZ
  rw [List.getElem?_toArray, List.getElem?_map]
  by_cases h : j < n
  · rw [if_pos h, List.getElem?_range h]; rfl
  · rw [if_neg h, List.getElem?_eq_none (by simpa using h)]; rfl
theorem rowZ_size (n : Nat) (f : Nat → Value) : (rowZ n f).size = n := by simp [rowZ]
theorem rowZ_set (n : Nat) (f : Nat → Value) (j : Nat) (v : Value) : (rowZ n f).setIfInBounds j v = rowZ n (fun k => if k = j then v else f k) := by
  apply Array.ext_getElem?
  intro k
  rw [Array.getElem?_setIfInBounds, rowZ_get, rowZ_get, rowZ_size]
  by_cases h : j = k
  · subst h
    simp
  · have h' : ¬ k = j := fun e => h e.symm
    simp [h, h']
theorem rowZ_congr {n : Nat} {f g : Nat → Value} (h : ∀ j, j < n → f j = g j) : rowZ n f = rowZ n g := by
  apply Array.ext_getElem?
  intro k
  rw [rowZ_get, rowZ_get]
  by_cases hk : k < n
  · rw [if_pos hk, if_pos hk, h k hk]
  · rw [if_neg hk, if_neg hk]
theorem rowZ_made (z : Value) (n : Nat) : madeCells #[z] n = rowZ n (fun _ => z) := by
  apply Array.ext'
  rw [toList_madeCells1]
  simp [rowZ, List.map_const']

structure Tab (w : World) (base to_ ti : Nat) (K : IntKind) (B N M : Nat) (b : Nat → Nat) (d : Nat → Prop) (f : Nat → Nat → Nat) : Prop where
  lo : base ≤ B
  outer : ∃ o : Nat → Value, w.heap[B]? = some (.cells (rowZ N o) to_ (0, 0)) ∧ ∀ i, i < N → d i → o i = .slice (some ⟨b i, 0, none⟩) M M
  rows : ∀ i, i < N → d i → base ≤ b i ∧ b i ≠ B ∧ w.heap[b i]? = some (.cells (rowZ M (fun j => .int K (f i j : Int))) ti (0, 0))
  inj : ∀ i k, i < N → k < N → d i → d k → b i = b k → i = k

section
variable {w : World} {base to_ ti : Nat} {K : IntKind} {B N M : Nat} {b : Nat → Nat} {d : Nat → Prop} {f : Nat → Nat → Nat}
theorem lt_of_heap {w : World} {g : Nat} {o : Obj} (h : w.heap[g]? = some o) : g < w.heap.size := by
  rcases Nat.lt_or_ge g w.heap.size with h1 | h1
  · exact h1
  · rw [Array.getElem?_eq_none h1] at h; cases h
theorem Tab.B_lt (h : Tab w base to_ ti K B N M b d f) : B < w.heap.size := by
  obtain ⟨o, h1, _⟩ := h.outer
  exact lt_of_heap h1
theorem Tab.b_lt (h : Tab w base to_ ti K B N M b d f) {i : Nat} (hi : i < N) (hd : d i) : b i < w.heap.size := lt_of_heap (h.rows i hi hd).2.2
theorem Tab.slot (h : Tab w base to_ ti K B N M b d f) {i : Nat} (hi : i < N) (hd : d i) : w.cell? ⟨B, i, none⟩ = some (.slice (some ⟨b i, 0, none⟩) M M) := by
  obtain ⟨o, h1, h2⟩ := h.outer
  rw [cell_of_row _ _ i _ _ _ h1, rowZ_get, if_pos hi, h2 i hi hd]
theorem Tab.has (h : Tab w base to_ ti K B N M b d f) {i : Nat} (hi : i < N) : ∃ v, w.cell? ⟨B, i, none⟩ = some v := by
  obtain ⟨o, h1, h2⟩ := h.outer
  exact ⟨o i, by rw [cell_of_row _ _ i _ _ _ h1, rowZ_get, if_pos hi]⟩
theorem Tab.at_ (h : Tab w base to_ ti K B N M b d f) {i j : Nat} (hi : i < N) (hd : d i) (hj : j < M) : w.cell? ⟨b i, j, none⟩ = some (.int K (f i j : Int)) := by
  rw [cell_of_row _ _ j _ _ _ (h.rows i hi hd).2.2, rowZ_get, if_pos hj]
theorem Tab.frB (h : Tab w base to_ ti K B N M b d f) (i : Nat) : w.frozen? ⟨B, i, none⟩ = false := by
  obtain ⟨o, h1, h2⟩ := h.outer
  exact Blk.frozen h1 i
theorem Tab.frb (h : Tab w base to_ ti K B N M b d f) {i : Nat} (hi : i < N) (hd : d i) (j : Nat) : w.frozen? ⟨b i, j, none⟩ = false := Blk.frozen (h.rows i hi hd).2.2 j
/-- other blocks may turn -/
theorem Tab.keep {w' : World} (h : Tab w base to_ ti K B N M b d f) (hB : w'.heap[B]? = w.heap[B]?) (hb : ∀ i, i < N → d i → w'.heap[b i]? = w.heap[b i]?) : Tab w' base to_ ti K B N M b d f := by
  obtain ⟨o, h1, h2⟩ := h.outer
  exact ⟨h.lo, ⟨o, hB.trans h1, h2⟩, fun i hi hd => ⟨(h.rows i hi hd).1, (h.rows i hi hd).2.1, (hb i hi hd).trans (h.rows i hi hd).2.2⟩, h.inj⟩
theorem Tab.alloc (h : Tab w base to_ ti K B N M b d f) (o : Obj) : Tab (w.alloc o) base to_ ti K B N M b d f := by
  refine h.keep ?_ fun i hi hd => ?_
  · rw [heap_alloc_get, if_neg (Nat.ne_of_lt h.B_lt)]
  · rw [heap_alloc_get, if_neg (Nat.ne_of_lt (h.b_lt hi hd))]
theorem Tab.drewN (h : Tab w base to_ ti K B N M b d f) (k : Nat) : Tab (w.drewN k) base to_ ti K B N M b d f := h.keep rfl fun _ _ _ => rfl
theorem Tab.drew (h : Tab w base to_ ti K B N M b d f) : Tab w.drew base to_ ti K B N M b d f := h.keep rfl fun _ _ _ => rfl
theorem Tab.below {w' : World} (h : Tab w base to_ ti K B N M b d f) (hb : Below w.heap.size w w') : Tab w' base to_ ti K B N M b d f :=
  h.keep (hb.block _ h.B_lt) fun i hi hd => hb.block _ (h.b_lt hi hd)
theorem Tab.far (h : Tab w base to_ ti K B N M b d f) {g i : Nat} (u : Value) (h1 : g ≠ B) (h2 : ∀ i, i < N → d i → g ≠ b i) : Tab (w.setCell ⟨g, i, none⟩ u) base to_ ti K B N M b d f :=
  h.keep (heap_set_far _ _ _ _ _ (fun e => h1 e.symm)) fun i hi hd => heap_set_far _ _ _ _ _ (fun e => h2 i hi hd e.symm)
/-- an entry is stored -/
theorem Tab.store (h : Tab w base to_ ti K B N M b d f) {i j : Nat} (hi : i < N) (hd : d i) (v : Nat) :
    Tab (w.setCell ⟨b i, j, none⟩ (.int K (v : Int))) base to_ ti K B N M b d (fun i' j' => if i' = i ∧ j' = j then v else f i' j') := by
  obtain ⟨o, h1, h2⟩ := h.outer
  refine ⟨h.lo, ⟨o, ?_, h2⟩, fun k hk hdk => ⟨(h.rows k hk hdk).1, (h.rows k hk hdk).2.1, ?_⟩, h.inj⟩
  · rw [heap_set_far _ _ _ _ _ (fun e => (h.rows i hi hd).2.1 e.symm)]
    exact h1
  · by_cases e : k = i
    · subst e
      rw [heap_set_near _ _ _ _ _ _ (h.rows k hk hdk).2.2, rowZ_set]
      congr 2
      refine rowZ_congr fun j' _ => ?_
      by_cases ej : j' = j
      · simp [ej]
      · simp [ej]
    · rw [heap_set_far _ _ _ _ _ (fun e2 => e (h.inj _ _ hk hi hdk hd e2)), (h.rows k hk hdk).2.2]
      congr 2
      refine rowZ_congr fun j' _ => ?_
      simp [e]
/-- a further row is put in -/
theorem Tab.put (h : Tab w base to_ ti K B N M b d f) {k r : Nat} (hk : k < N) (g : Nat → Nat) (hr : w.heap[r]? = some (.cells (rowZ M (fun j => .int K (g j : Int))) ti (0, 0))) (hrb : base ≤ r) (hrB : r ≠ B) (hne : ∀ i, i < N → d i → b i ≠ r) (hnk : ¬ d k) :
    Tab (w.setCell ⟨B, k, none⟩ (.slice (some ⟨r, 0, none⟩) M M)) base to_ ti K B N M (fun i => if i = k then r else b i) (fun i => d i ∨ i = k) (fun i j => if i = k then g j else f i j) := by
  obtain ⟨o, h1, h2⟩ := h.outer
  refine ⟨h.lo, ⟨_, (heap_set_near _ _ _ _ _ _ h1).trans (by rw [rowZ_set]), fun i hi hd => ?_⟩, fun i hi hd => ?_, fun i j hi hj hdi hdj => ?_⟩
  · by_cases e : i = k
    · simp [e]
    · simp only [e, if_false]
      exact h2 i hi (hd.resolve_right e)
  · by_cases e : i = k
    · subst e
      simp only [if_true]
      refine ⟨hrb, hrB, ?_⟩
      rw [heap_set_far _ _ _ _ _ hrB]
      exact hr
    · simp only [e, if_false]
      have hd' := hd.resolve_right e
      refine ⟨(h.rows i hi hd').1, (h.rows i hi hd').2.1, ?_⟩
      rw [heap_set_far _ _ _ _ _ (h.rows i hi hd').2.1]
      exact (h.rows i hi hd').2.2
  · by_cases e1 : i = k
    · by_cases e2 : j = k
      · intro _; omega
      · simp only [e1, e2, if_true, if_false]
        intro e3
        exact absurd e3.symm (hne j hj (hdj.resolve_right e2))
    · by_cases e2 : j = k
      · simp only [e1, e2, if_true, if_false]
        intro e3
        exact absurd e3 (hne i hi (hdi.resolve_right e1))
      · simp only [e1, e2, if_false]
        exact h.inj i j hi hj (hdi.resolve_right e1) (hdj.resolve_right e2)
/-- an outer row that was made just now -/
theorem Tab.made (w : World) (base to_ ti : Nat) (K : IntKind) (N M : Nat) (z : Value) (hb : base ≤ w.heap.size) : Tab (w.alloc (.cells (madeCells #[z] N) to_)) base to_ ti K w.heap.size N M (fun _ => 0) (fun _ => False) (fun _ _ => 0) :=
  ⟨hb, ⟨_, by rw [heap_alloc_get, if_pos rfl, rowZ_made], fun _ _ h => h.elim⟩, fun _ _ h => h.elim, fun _ _ _ _ h => h.elim⟩
theorem Tab.mono {d' : Nat → Prop} (h : Tab w base to_ ti K B N M b d f) (hd : ∀ i, i < N → d' i → d i) : Tab w base to_ ti K B N M b d' f := by
  obtain ⟨o, h1, h2⟩ := h.outer
  exact ⟨h.lo, ⟨o, h1, fun i hi hdi => h2 i hi (hd i hi hdi)⟩, fun i hi hdi => h.rows i hi (hd i hi hdi), fun i k hi hk hdi hdk => h.inj i k hi hk (hd i hi hdi) (hd k hk hdk)⟩
theorem Tab.same {f' : Nat → Nat → Nat} (h : Tab w base to_ ti K B N M b d f) (hf : ∀ i j, i < N → d i → j < M → f i j = f' i j) : Tab w base to_ ti K B N M b d f' :=
  ⟨h.lo, h.outer, fun i hi hd => ⟨(h.rows i hi hd).1, (h.rows i hi hd).2.1, by rw [(h.rows i hi hd).2.2]; congr 2; exact rowZ_congr fun j hj => by rw [hf i j hi hd hj]⟩, h.inj⟩
end

theorem str_beq (a b : ByteArray) : (a.toList == b.toList) = decide (a = b) := by
  by_cases h : a = b
  · subst h; simp
  · have : a.toList ≠ b.toList := fun e => h (by rw [ByteArray.toList_eq, ByteArray.toList_eq] at e; exact ByteArray.ext (Array.toList_inj.1 e))
    simp [h, this]
/-- the entries of the table: what is common to the ends -/
def LT (x y : List ByteArray) (i j : Nat) : Nat := lcs (x.drop i) (y.drop j)
theorem LT_end1 {x y : List ByteArray} {i : Nat} (j : Nat) (h : x.length ≤ i) : LT x y i j = 0 := by
  unfold LT; rw [List.drop_eq_nil_of_le h, nil_lcs]
theorem LT_end2 {x y : List ByteArray} (i : Nat) {j : Nat} (h : y.length ≤ j) : LT x y i j = 0 := by
  unfold LT; rw [List.drop_eq_nil_of_le h, lcs_nil]
theorem LT_hit {x y : List ByteArray} {i j : Nat} (hi : i < x.length) (hj : j < y.length) (h : x[i] = y[j]) : LT x y i j = LT x y (i + 1) (j + 1) + 1 := by
  unfold LT
  rw [List.drop_eq_getElem_cons hi, List.drop_eq_getElem_cons hj, lcs, if_pos h]
theorem LT_miss {x y : List ByteArray} {i j : Nat} (hi : i < x.length) (hj : j < y.length) (h : x[i] ≠ y[j]) : LT x y i j = max (LT x y (i + 1) j) (LT x y i (j + 1)) := by
  unfold LT
  have e1 := List.drop_eq_getElem_cons hi
  have e2 := List.drop_eq_getElem_cons hj
  rw [e1, e2, lcs, if_neg h]
theorem LT_le (x y : List ByteArray) (i j : Nat) : LT x y i j ≤ x.length := by
  unfold LT
  have := (lcs_le (x.drop i) (y.drop j)).1
  rw [List.length_drop] at this
  omega
end Go.Proofs.YtbeijpajodgpeaaDoor
