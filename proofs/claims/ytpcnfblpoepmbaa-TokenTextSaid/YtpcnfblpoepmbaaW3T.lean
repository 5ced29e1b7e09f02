/- A token that came in. -/
import Derived.Test.YtpcnfblpoepmbaaWords3
namespace Go.Proofs.Ytpcnfblpoepmbaa
open Go.ChangeShapes Go.WideShapes Go.ChangeAt Go.RowKit Go.Deep
set_option linter.unusedSimpArgs false
set_option linter.unusedVariables false
section
variable {H : Type} {enc : TypeId × Value → H} {P : Program} {W : World} {base : Nat} {held : Bool} {d : DataW H} {p : List MemPlace} {r : Reach} {b0 : Nat} {v : Value} {t : TypeId}
theorem open_token {f0 f1 f2 : Field} (hs : P.underlying t = some (.struct #[f0, f1, f2])) (hone : oneCellFields P #[f0, f1, f2] = true) (hC : P.cellsOf t = 3)
    (hi0 : P.underlying f0.type = some (.int .i64)) (hi1 : P.underlying f1.type = some (.int .i64)) (hi2 : P.underlying f2.type = some (.int .i64))
    (hv : Value.okWide P W r b0 t v) (h : DataW.Trod enc P W base (fun _ => true) held t v d p) : ∃ a b c : Int, v = .agg #[.int .i64 a, .int .i64 b, .int .i64 c] := by
  obtain ⟨c0, c1, c2, y0, y1, y2, m, rfl, rfl, rfl, hy0, hy1, hy2⟩ := Joins.open_agg3 hs hone hC hv h
  obtain ⟨a, e0, _⟩ := DataW.trod_int hi0 hy0
  obtain ⟨b, e1, _⟩ := DataW.trod_int hi1 hy1
  obtain ⟨c, e2, _⟩ := DataW.trod_int hi2 hy2
  injection e0 with e0 _
  injection e1 with e1 _
  injection e2 with e2 _
  subst e0 e1 e2
  exact ⟨a, b, c, rfl⟩
end
end Go.Proofs.Ytpcnfblpoepmbaa
