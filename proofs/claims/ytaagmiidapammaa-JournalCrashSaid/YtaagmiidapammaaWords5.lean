/- From readings of records and of lists of byte strings to the words of the walks. -/
import Derived.Test.YtaagmiidapammaaWords3
import Derived.Deep.Slices
namespace Go.Proofs.Ytaagmiidapammaa
open Go.ChangeShapes Go.WideShapes Go.ChangeAt Go.RowKit Go.Deep
open Go.ChangeMaps (open_string shut_string)
set_option linter.unusedSimpArgs false
set_option linter.unusedVariables false

/-- the slice (A, n, c) reads as the byte strings L -/
structure RdBB (w : World) (A : Option Addr) (n c : Nat) (L : List (List UInt8)) : Prop where
  len : n = L.length
  cap : n ≤ c
  max : c ≤ maxLen
  rows : 0 < n → ∃ b off, A = some ⟨b, off, none⟩ ∧ b < w.heap.size ∧ ∀ k l, L[k]? = some l → ∃ A' n' c', w.cell? ⟨b, off + k, none⟩ = some (.slice A' n' c') ∧ RdB w A' n' c' l
theorem RdBB.below {w w' : World} {A : Option Addr} {n c : Nat} {L : List (List UInt8)} (h : RdBB w A n c L) (hb : Below w.heap.size w w') : RdBB w' A n c L :=
  ⟨h.len, h.cap, h.max, fun h0 => by
    obtain ⟨b, off, e, hlt, hr⟩ := h.rows h0
    refine ⟨b, off, e, Nat.lt_of_lt_of_le hlt hb.size, fun k l hk => ?_⟩
    obtain ⟨A', n', c', h1, h2⟩ := hr k l hk
    exact ⟨A', n', c', (hb.cell (p := ⟨b, off + k, none⟩) hlt).trans h1, h2.below hb⟩⟩

section
variable {H : Type} {enc : TypeId × Value → H} {P : Program} {W : World} {base : Nat} {held : Bool} {d : DataW H} {p : List MemPlace} {r : Reach} {b0 : Nat} {v : Value} {t e e2 : TypeId}
theorem open_record {f0 f1 : Field} (hs : P.underlying t = some (.struct #[f0, f1])) (hone : oneCellFields P #[f0, f1] = true) (hC : P.cellsOf t = 2)
    (hi : P.underlying f0.type = some (.int .i64)) (ht : P.underlying f1.type = some (.slice e)) (he : P.underlying e = some (.int .u8)) (hc : P.cellsOf e = 1)
    (hv : Value.okWide P W r b0 t v) (h : DataW.Trod enc P W base (fun _ => true) held t v d p) : ∃ A n c l s, v = .agg #[.int .i64 s, .slice A n c] ∧ RdB W A n c l := by
  obtain ⟨c0, c1, y0, y1, m, rfl, rfl, rfl, hy0, hy1⟩ := Joins.open_agg2 hs hone hC hv h
  obtain ⟨A, n, c, l, rfl, hr⟩ := open_bytes_cell ht he hc hy1
  obtain ⟨s, e1, _⟩ := DataW.trod_int hi hy0
  injection e1 with e1 _
  subst e1
  exact ⟨A, n, c, l, s, rfl, hr⟩
theorem open_rows (ht : P.underlying t = some (.slice e)) (he : P.underlying e = some (.slice e2)) (he2 : P.underlying e2 = some (.int .u8)) (hc : P.cellsOf e = 1) (hc2 : P.cellsOf e2 = 1)
    (hv : Value.okWide P W r b0 t v) (h : DataW.Trod enc P W base (fun _ => true) held t v d p) : ∃ A n c L, v = .slice A n c ∧ RdBB W A n c L := by
  obtain ⟨a, len, cap, rfl⟩ := okWide_slice ht hv
  obtain ⟨fuel, hf⟩ := h
  rcases open_slice ht hf with ⟨hcs, _⟩ | ⟨a, len, cap, m, n, D, Pl, hcs, _, hl, hm, hmm, _, hi⟩
  · simp [Value.cells] at hcs
    obtain ⟨rfl, rfl, rfl⟩ := hcs
    exact ⟨none, 0, 0, [], rfl, rfl, Nat.le_refl _, by unfold maxLen; omega, fun h0 => absurd h0 (by omega)⟩
  · simp [Value.cells] at hcs
    obtain ⟨rfl, rfl, rfl⟩ := hcs
    simp at hmm
    subst hmm
    have hrow : ∀ i, i < m → ∃ (l : List UInt8) (A' : Option Addr) (n' c' : Nat), W.cell? (a.add i) = some (.slice A' n' c') ∧ RdB W A' n' c' l := by
      intro i him
      obtain ⟨cs', h1, h2⟩ := hi i him
      rw [hc, Nat.mul_one] at h1
      obtain ⟨_, hlen, hcell⟩ := World.cells?_some h1
      match cs', hlen with
      | [u], _ =>
        obtain ⟨A', n', c', l', rfl, hr⟩ := open_bytes_cell he he2 hc2 h2
        exact ⟨l', A', n', c', by have := hcell 0 (by omega); simpa [Addr.add] using this, hr⟩
    refine ⟨_, len, m, (List.range len).map (fun i => if h : i < m then (hrow i h).choose else []), rfl, by simp, hl, hm, fun h0 => ?_⟩
    have hsp : a.spot = none := by
      obtain ⟨l, A', n', c', h1, _⟩ := hrow 0 (by omega)
      simpa [Addr.add] using World.cell?_spot h1
    obtain ⟨b, off, sp⟩ := a
    simp only at hsp
    subst hsp
    refine ⟨b, off, rfl, ?_, fun k l hk => ?_⟩
    · obtain ⟨l, A', n', c', h1, _⟩ := hrow 0 (by omega)
      have := World.block_lt_of_cell? W _ h1
      simpa [Addr.add] using this
    · have hkl : k < len := by
        rcases Nat.lt_or_ge k len with h1 | h1
        · exact h1
        · rw [List.getElem?_eq_none (by simpa using h1)] at hk; cases hk
      rw [List.getElem?_map, List.getElem?_range hkl] at hk
      simp only [Option.map_some, Option.some.injEq] at hk
      rw [dif_pos (by omega)] at hk
      obtain ⟨A', n', c', h1, h2⟩ := (hrow k (by omega)).choose_spec
      rw [hk] at h2
      refine ⟨A', n', c', ?_, h2⟩
      have e : (⟨b, off, none⟩ : Addr).add k = ⟨b, off + k, none⟩ := by
        unfold Addr.add
        by_cases h0 : k = 0
        · subst h0; simp
        · simp [h0]
      rw [← e]; exact h1
end

end Go.Proofs.Ytaagmiidapammaa
