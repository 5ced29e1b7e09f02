/- From what a statement's reading says to the words of the walks. -/
import Derived.Test.YtobgnncdldfkkaaDoorWords2
import Derived.ProofKit
import Derived.OpenShut
import Derived.ShutString
import Derived.ChangeOld
import Derived.Lib.SmallJoins
namespace Go.Proofs.YtobgnncdldfkkaaDoor
open Go.ChangeShapes Go.WideShapes Go.ChangeAt Go.RowKit Go.Deep
open Go.ChangeMaps (open_string shut_string)
set_option linter.unusedSimpArgs false
set_option linter.unusedVariables false

def u8s (zs : List Int) : List UInt8 := zs.map fun z => UInt8.ofNat z.toNat

theorem rdB_of_ints {W : World} {x : Addr} {len cap : Nat} {zs : List Int} (hl : len ≤ cap) (hm : cap ≤ maxLen) (hz : zs.length = cap)
    (hcell : ∀ i, i < zs.length → W.cell? (x.add i) = some (.int .u8 (zs.getD i 0))) (hwz : ∀ n ∈ zs, (Lit.int .u8 n).wf = true) :
    RdB W (some x) len cap (u8s (zs.take len)) := by
  have hlen : (u8s (zs.take len)).length = len := by simp [u8s]; omega
  refine ⟨hlen.symm, hl, hm, by rw [length_bs, hlen]; omega, fun h0 => ⟨x, rfl, ?_, fun j u hu => ?_⟩⟩
  · have := World.block_lt_of_cell? W _ (hcell 0 (by omega))
    simpa [Addr.add] using this
  · have hj : j < len := by
      rcases Nat.lt_or_ge j len with h1 | h1
      · exact h1
      · rw [List.getElem?_eq_none (by rw [length_bs, hlen]; exact h1)] at hu; cases hu
    have hjz : j < zs.length := by omega
    rw [hcell j hjz]
    have hw := hwz zs[j] (List.getElem_mem hjz)
    have hb : 0 ≤ zs[j] ∧ zs[j] ≤ 255 := bounds_u8 hw
    simp only [bs, u8s, List.map_map, List.getElem?_map, List.getElem?_take, hj, if_true, List.getElem?_eq_getElem hjz, Option.map_some, Function.comp, Option.some.injEq] at hu
    rw [← hu, List.getD_eq_getElem?_getD, List.getElem?_eq_getElem hjz, Option.getD_some, UInt8.toNat_ofNat']
    congr 2
    omega

section
variable {H : Type} {enc : TypeId × Value → H} {P : Program} {W : World} {base : Nat} {held : Bool} {d : DataW H} {p : List MemPlace} {r : Reach} {b0 : Nat} {v : Value} {t e : TypeId}
theorem open_bytes_cell {fuel : Nat} {x : DataW H × List MemPlace} (ht : P.underlying t = some (.slice e)) (he : P.underlying e = some (.int .u8)) (hc : P.cellsOf e = 1)
    (h : DataW.trod enc P W base (fun _ => true) held fuel t [v] = some x) : ∃ A n c l, v = .slice A n c ∧ RdB W A n c l := by
  rcases open_ints ht he hc h with ⟨hcs, _⟩ | ⟨a, len, cap, zs, hcs, _, hl, hm, hz, _, hcell, hwz⟩
  · injection hcs with hcs _
    exact ⟨none, 0, 0, [], hcs, RdB.nil _⟩
  · injection hcs with hcs _
    exact ⟨_, _, _, _, hcs, rdB_of_ints hl hm (by simpa using hz) hcell hwz⟩
theorem open_bytes (ht : P.underlying t = some (.slice e)) (he : P.underlying e = some (.int .u8)) (hc : P.cellsOf e = 1)
    (hv : Value.okWide P W r b0 t v) (h : DataW.Trod enc P W base (fun _ => true) held t v d p) : ∃ A n c l, v = .slice A n c ∧ RdB W A n c l := by
  obtain ⟨a, len, cap, rfl⟩ := okWide_slice ht hv
  obtain ⟨fuel, hf⟩ := h
  exact open_bytes_cell (fuel := fuel) ht he hc (by simpa [Value.cells] using hf)
theorem open_disk {f0 f1 : Field} (hs : P.underlying t = some (.struct #[f0, f1])) (hone : oneCellFields P #[f0, f1] = true) (hC : P.cellsOf t = 2)
    (ht : P.underlying f0.type = some (.slice e)) (he : P.underlying e = some (.int .u8)) (hc : P.cellsOf e = 1) (hi : P.underlying f1.type = some (.int .i64))
    (hv : Value.okWide P W r b0 t v) (h : DataW.Trod enc P W base (fun _ => true) held t v d p) : ∃ A n c l s, v = .agg #[.slice A n c, .int .i64 s] ∧ RdB W A n c l := by
  obtain ⟨c0, c1, y0, y1, m, rfl, rfl, rfl, hy0, hy1⟩ := Joins.open_agg2 hs hone hC hv h
  obtain ⟨A, n, c, l, rfl, hr⟩ := open_bytes_cell ht he hc hy0
  obtain ⟨s, e1, _⟩ := DataW.trod_int hi hy1
  injection e1 with e1 _
  subst e1
  exact ⟨A, n, c, l, s, rfl, hr⟩
theorem open_num (ht : P.underlying t = some (.int .i64)) (hv : Value.okWide P W r b0 t v) (h : DataW.Trod enc P W base (fun _ => true) held t v d p) : ∃ x, v = .int .i64 x ∧ (Lit.int .i64 x).wf = true := by
  obtain ⟨x, rfl, rfl, rfl, wx⟩ := open_int ht hv h
  exact ⟨x, rfl, wx⟩
end

end Go.Proofs.YtobgnncdldfkkaaDoor
