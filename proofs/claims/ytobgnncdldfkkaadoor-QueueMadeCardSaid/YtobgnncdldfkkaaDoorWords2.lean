/- More words: strings out of bytes; literals; what a call changed in one block. -/
import Derived.Test.YtobgnncdldfkkaaDoorWords
import Derived.Laws.BytesString
namespace Go.Proofs.YtobgnncdldfkkaaDoor
open Go.RowKit
set_option linter.unusedSimpArgs false
set_option linter.unusedVariables false

theorem RdB.none_ {w : World} {n c : Nat} {l : List UInt8} (h : RdB w none n c l) : n = 0 ∧ l = [] := by
  have h0 : n = 0 := by
    rcases Nat.eq_zero_or_pos n with h0 | h0
    · exact h0
    · obtain ⟨ad, h1, _⟩ := h.reads.2 h0
      cases h1
  exact ⟨h0, List.eq_nil_of_length_eq_zero (by rw [← h.len]; exact h0)⟩

theorem fold_push (l : List UInt8) : ∀ s : ByteArray, (l.map fun b => (b.toNat : Int)).foldl (fun r n => r.push (UInt8.ofNat n.toNat)) s = ⟨s.data ++ l.toArray⟩ := by
  induction l with
  | nil => intro s; simp
  | cons b l ih =>
    intro s
    simp only [List.map_cons, List.foldl_cons]
    rw [ih]
    simp [ByteArray.push]

theorem run_b2s {P : Program} (w : World) (A : Option Addr) (n c : Nat) (l : List UInt8) (h : RdB w A n c l) :
    (Conv.bytesToString (.slice A n c)).run P w = .ok (.string ⟨l.toArray⟩) w := by
  cases A with
  | none =>
    obtain ⟨rfl, rfl⟩ := h.none_
    unfold Conv.bytesToString
    simp [Sem.run_pure]
    rfl
  | some a =>
    have hl : (loadCells a n).run P w = .ok ((l.map fun b => (b.toNat : Int)).map (Value.int .u8)).toArray w := by
      have e : (l.map fun b => (b.toNat : Int)).map (Value.int .u8) = bs l := by simp [bs]
      rw [e]
      have hc : ∀ j v, (bs l)[j]? = some v → w.cell? (a.add j) = some v := fun j v hv => by
        have hj : j < (bs l).length := by
          rcases Nat.lt_or_ge j (bs l).length with h1 | h1
          · exact h1
          · rw [List.getElem?_eq_none h1] at hv; cases hv
        rw [length_bs, ← h.len] at hj
        obtain ⟨ad, e1, _, h2⟩ := h.reads.2 (by omega)
        injection e1 with e1
        subst e1
        exact h2 j v hv
      have := run_loadCells_list (P := P) (w := w) a (bs l) hc
      rw [length_bs, ← h.len] at this
      exact this
    rw [run_bytesToString w a n c _ hl, fold_push]
    simp

/-- bytes that a literal made -/
theorem RdB.lit {w : World} {g t : Nat} {l : List UInt8} {n c : Nat} {cs : Array Value} {fr : Nat × Nat} (h : w.heap[g]? = some (.cells cs t fr)) (hn : n = l.length) (hcs : cs.toList.take n = bs l) (hc : n ≤ c) (hm : c ≤ maxLen) : RdB w (some ⟨g, 0, none⟩) n c l := by
  refine ⟨hn, hc, hm, by rw [length_bs, hn]; omega, fun _ => ⟨⟨g, 0, none⟩, rfl, ?_, fun j u hu => ?_⟩⟩
  · rcases Nat.lt_or_ge g w.heap.size with h1 | h1
    · exact h1
    · rw [Array.getElem?_eq_none h1] at h; cases h
  · have hj : (⟨g, 0, none⟩ : Addr).add j = ⟨g, j, none⟩ := by
      unfold Addr.add
      by_cases h0 : j = 0 <;> simp [h0]
    rw [hj, cell_of_row w g j cs t fr h]
    rw [← hcs, List.getElem?_take] at hu
    split at hu
    · simpa using hu
    · cases hu

theorem blk_do {W w1 : World} {g t : Nat} {cs : Array Value} {G : Prop} (hb : Below W.heap.size W w1) (h : W.heap[g]? = some (.cells cs t (0, 0)))
    (k : (∀ o, w1.cell? ⟨g, o, none⟩ = cs[o]?) → (∀ o, w1.frozen? ⟨g, o, none⟩ = false) → g < w1.heap.size → w1.heap[g]? = some (.cells cs t (0, 0)) → G) : G := by
  obtain ⟨a, b, c, d⟩ := blk_cells hb h
  exact k a b c d

end Go.Proofs.YtobgnncdldfkkaaDoor
