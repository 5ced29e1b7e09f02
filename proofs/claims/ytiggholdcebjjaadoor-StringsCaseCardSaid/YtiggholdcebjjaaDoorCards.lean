/-
  DERIVED. GIVEN WITH THE SEED: THE CARDS: each row of YtiggholdcebjjaaDoorRows.lean that lists a variable, with what it lists TIED to the program's text (the seventh form; the later family's looks); each row that meets fmt, with fmt's text TOLD by the authors' own Lean function (tested against real Go, not proved from fmt's source: count such statements apart). THE CARD IS WHAT COUNTS. Prove the row's statement (the work); the ties are given (YtiggholdcebjjaaDoorTie.lean); close each card by the builder's one call (the guide's Derived/Test/ToyasCard.lean, 'card_holds'). Laid BY PROGRAM, IN A SANDBOX (cutbox-door.mjs). By AI agents, Wed Nov 11 2026. No macro, syntax, notation, axiom, sorry.
-/
import Derived.Test.YtiggholdcebjjaaDoorRows
import GoSem.ClaimSeven
namespace Go.Proofs.YtiggholdcebjjaaDoor
namespace Rows

/-- THE TIED CARD OF 'trclaw9.StringsCase'. -/
def stringsCaseCard : Claim7 := { stood := { row := stringsCaseRow, standIns := [], harness := (true, "32d357c6bb9d7f55243f99921e1395b780731708a3cdbe358e0887eb9b8f6e5d"), looks := false }, kinds := [], alts := [], laidByText := true, laidKinds := [.data, .pinned], laidTests := true, laidLooks := .later }
def StringsCaseCardSaid : Prop := Claim7.holds Tryd.pinned (.plain (OpenSpec.ofChange stringsCaseSpec)) stringsCaseCard

/-- THE SECOND FORM's CARD OF 'trclaw9.StringsCase'. -/
def stringsCaseUptoCard : Claim7 := { stood := { row := stringsCaseUptoRow, standIns := [], harness := (true, "32d357c6bb9d7f55243f99921e1395b780731708a3cdbe358e0887eb9b8f6e5d"), looks := false }, kinds := [], alts := [], laidByText := true, laidKinds := [.data, .pinned], laidTests := true, laidLooks := .later }
def StringsCaseUptoCardSaid : Prop := Claim7.holds Tryd.pinned (.plain (OpenSpec.upto stringsCaseSpec)) stringsCaseUptoCard
end Rows
end Go.Proofs.YtiggholdcebjjaaDoor
