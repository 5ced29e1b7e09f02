/- From a reading of a slice of numbers to the words of the walks. -/
import Derived.Test.YtobgnncdldfkkaaDoorWords3
import Derived.Test.YtobgnncdldfkkaaDoorSrc
namespace Go.Proofs.YtobgnncdldfkkaaDoor
open Go.ChangeShapes Go.WideShapes Go.ChangeAt Go.RowKit Go.Deep
open Go.ChangeMaps (open_string shut_string)
set_option linter.unusedSimpArgs false
set_option linter.unusedVariables false

theorem rdN_of_ints {W : World} {x : Addr} {len cap : Nat} {zs : List Int} (hl : len ≤ cap) (hm : cap ≤ maxLen) (hz : zs.length = cap)
    (hcell : ∀ i, i < zs.length → W.cell? (x.add i) = some (.int .i64 (zs.getD i 0))) : RdN W (some x) len cap (zs.take len) := by
  have hlen : (zs.take len).length = len := by simp; omega
  refine ⟨hlen.symm, hl, hm, by rw [List.length_map, hlen]; omega, fun h0 => ⟨x, rfl, ?_, fun j u hu => ?_⟩⟩
  · have := World.block_lt_of_cell? W _ (hcell 0 (by omega))
    simpa [Addr.add] using this
  · have hj : j < len := by
      rcases Nat.lt_or_ge j len with h1 | h1
      · exact h1
      · rw [List.getElem?_eq_none (by rw [List.length_map, hlen]; exact h1)] at hu; cases hu
    have hjz : j < zs.length := by omega
    rw [hcell j hjz]
    simp only [List.getElem?_map, List.getElem?_take, hj, if_true, List.getElem?_eq_getElem hjz, Option.map_some, Option.some.injEq] at hu
    rw [← hu, List.getD_eq_getElem?_getD, List.getElem?_eq_getElem hjz, Option.getD_some]

section
variable {H : Type} {enc : TypeId × Value → H} {P : Program} {W : World} {base : Nat} {held : Bool} {d : DataW H} {p : List MemPlace} {r : Reach} {b0 : Nat} {v : Value} {t e : TypeId}
theorem open_nums (ht : P.underlying t = some (.slice e)) (he : P.underlying e = some (.int .i64)) (hc : P.cellsOf e = 1)
    (hv : Value.okWide P W r b0 t v) (h : DataW.Trod enc P W base (fun _ => true) held t v d p) : ∃ A n c zs, v = .slice A n c ∧ RdN W A n c zs := by
  obtain ⟨a, len, cap, rfl⟩ := okWide_slice ht hv
  obtain ⟨fuel, hf⟩ := h
  rcases open_ints ht he hc hf with ⟨hcs, _⟩ | ⟨a, len, cap, zs, hcs, _, hl, hm, hz, _, hcell, hwz⟩
  · simp [Value.cells] at hcs
    obtain ⟨rfl, rfl, rfl⟩ := hcs
    exact ⟨none, 0, 0, [], rfl, rfl, Nat.le_refl _, by unfold maxLen; omega, Reads.none_⟩
  · simp [Value.cells] at hcs
    obtain ⟨rfl, rfl, rfl⟩ := hcs
    exact ⟨_, _, _, _, rfl, rdN_of_ints hl hm (by simpa using hz) hcell⟩
end

end Go.Proofs.YtobgnncdldfkkaaDoor
