/-
  DERIVED. GIVEN WITH THE SEED: THE CARDS: each row of YtakbpdlfgjfbeaaDoorRows.lean that lists a variable, with what it lists TIED to the program's text (the seventh form; the later family's looks); each row that meets fmt, with fmt's text TOLD by the authors' own Lean function (tested against real Go, not proved from fmt's source: count such statements apart). THE CARD IS WHAT COUNTS. Prove the row's statement (the work); the ties are given (YtakbpdlfgjfbeaaDoorTie.lean); close each card by the builder's one call (the guide's Derived/Test/ToyasCard.lean, 'card_holds'). Laid BY PROGRAM, IN A SANDBOX (cutbox-door.mjs). By AI agents, Wed Nov 11 2026. No macro, syntax, notation, axiom, sorry.
-/
import Derived.Test.YtakbpdlfgjfbeaaDoorRows
import GoSem.ClaimSeven
namespace Go.Proofs.YtakbpdlfgjfbeaaDoor
namespace Rows

/-- THE TIED CARD OF 'trclaw22.DiffExact'. -/
def diffExactCard : Claim7 := { stood := { row := diffExactRow, standIns := [], harness := (true, "de601e27246c4730d93d70db6f01f3d072c318d2419dfbb05c1ed0837f0a9f85"), looks := false }, kinds := [], alts := [], laidByText := true, laidKinds := [.data, .pinned], laidTests := true, laidLooks := .later }
def DiffExactCardSaid : Prop := Claim7.holds Tryd.pinned (.plain (OpenSpec.ofChange diffExactSpec)) diffExactCard

/-- THE TIED CARD OF 'trclaw22.DiffShape'. -/
def diffShapeCard : Claim7 := { stood := { row := diffShapeRow, standIns := [], harness := (true, "de601e27246c4730d93d70db6f01f3d072c318d2419dfbb05c1ed0837f0a9f85"), looks := false }, kinds := [], alts := [], laidByText := true, laidKinds := [.data, .pinned], laidTests := true, laidLooks := .later }
def DiffShapeCardSaid : Prop := Claim7.holds Tryd.pinned (.plain (OpenSpec.ofChange diffShapeSpec)) diffShapeCard

/-- THE TIED CARD OF 'trclaw22.DiffCost'. -/
def diffCostCard : Claim7 := { stood := { row := diffCostRow, standIns := [], harness := (true, "de601e27246c4730d93d70db6f01f3d072c318d2419dfbb05c1ed0837f0a9f85"), looks := false }, kinds := [], alts := [], laidByText := true, laidKinds := [.data, .pinned], laidTests := true, laidLooks := .later }
def DiffCostCardSaid : Prop := Claim7.holds Tryd.pinned (.plain (OpenSpec.ofChange diffCostSpec)) diffCostCard

/-- THE TIED CARD OF 'trclaw22.DiffLines'. -/
def diffLinesCard : Claim7 := { stood := { row := diffLinesRow, standIns := [], harness := (true, "de601e27246c4730d93d70db6f01f3d072c318d2419dfbb05c1ed0837f0a9f85"), looks := false }, kinds := [], alts := [], laidByText := true, laidKinds := [.data, .pinned], laidTests := true, laidLooks := .later }
def DiffLinesCardSaid : Prop := Claim7.holds Tryd.pinned (.plain (OpenSpec.ofChange diffLinesSpec)) diffLinesCard

/-- THE TIED CARD OF 'trclaw22.DiffApplies'. -/
def diffAppliesCard : Claim7 := { stood := { row := diffAppliesRow, standIns := [], harness := (true, "de601e27246c4730d93d70db6f01f3d072c318d2419dfbb05c1ed0837f0a9f85"), looks := false }, kinds := [], alts := [], laidByText := true, laidKinds := [.data, .pinned], laidTests := true, laidLooks := .later }
def DiffAppliesCardSaid : Prop := Claim7.holds Tryd.pinned (.plain (OpenSpec.ofChange diffAppliesSpec)) diffAppliesCard

/-- THE TIED CARD OF 'trclaw22.DiffEdits'. -/
def diffEditsCard : Claim7 := { stood := { row := diffEditsRow, standIns := [], harness := (true, "de601e27246c4730d93d70db6f01f3d072c318d2419dfbb05c1ed0837f0a9f85"), looks := false }, kinds := [], alts := [], laidByText := true, laidKinds := [.data, .pinned], laidTests := true, laidLooks := .later }
def DiffEditsCardSaid : Prop := Claim7.holds Tryd.pinned (.plain (OpenSpec.ofChange diffEditsSpec)) diffEditsCard

/-- THE TIED CARD OF 'trclaw22.DiffMissing'. -/
def diffMissingCard : Claim7 := { stood := { row := diffMissingRow, standIns := [], harness := (true, "de601e27246c4730d93d70db6f01f3d072c318d2419dfbb05c1ed0837f0a9f85"), looks := false }, kinds := [], alts := [], laidByText := true, laidKinds := [.data, .pinned], laidTests := true, laidLooks := .later }
def DiffMissingCardSaid : Prop := Claim7.holds Tryd.pinned (.plain (OpenSpec.ofChange diffMissingSpec)) diffMissingCard

/-- THE TIED CARD OF 'trclaw22.DiffLimit'. -/
def diffLimitCard : Claim7 := { stood := { row := diffLimitRow, standIns := [], harness := (true, "de601e27246c4730d93d70db6f01f3d072c318d2419dfbb05c1ed0837f0a9f85"), looks := false }, kinds := [], alts := [], laidByText := true, laidKinds := [.data, .pinned], laidTests := true, laidLooks := .later }
def DiffLimitCardSaid : Prop := Claim7.holds Tryd.pinned (.plain (OpenSpec.ofChange diffLimitSpec)) diffLimitCard

/-- THE SECOND FORM's CARD OF 'trclaw22.DiffExact'. -/
def diffExactUptoCard : Claim7 := { stood := { row := diffExactUptoRow, standIns := [], harness := (true, "de601e27246c4730d93d70db6f01f3d072c318d2419dfbb05c1ed0837f0a9f85"), looks := false }, kinds := [], alts := [], laidByText := true, laidKinds := [.data, .pinned], laidTests := true, laidLooks := .later }
def DiffExactUptoCardSaid : Prop := Claim7.holds Tryd.pinned (.plain (OpenSpec.upto diffExactSpec)) diffExactUptoCard

/-- THE SECOND FORM's CARD OF 'trclaw22.DiffShape'. -/
def diffShapeUptoCard : Claim7 := { stood := { row := diffShapeUptoRow, standIns := [], harness := (true, "de601e27246c4730d93d70db6f01f3d072c318d2419dfbb05c1ed0837f0a9f85"), looks := false }, kinds := [], alts := [], laidByText := true, laidKinds := [.data, .pinned], laidTests := true, laidLooks := .later }
def DiffShapeUptoCardSaid : Prop := Claim7.holds Tryd.pinned (.plain (OpenSpec.upto diffShapeSpec)) diffShapeUptoCard

/-- THE SECOND FORM's CARD OF 'trclaw22.DiffCost'. -/
def diffCostUptoCard : Claim7 := { stood := { row := diffCostUptoRow, standIns := [], harness := (true, "de601e27246c4730d93d70db6f01f3d072c318d2419dfbb05c1ed0837f0a9f85"), looks := false }, kinds := [], alts := [], laidByText := true, laidKinds := [.data, .pinned], laidTests := true, laidLooks := .later }
def DiffCostUptoCardSaid : Prop := Claim7.holds Tryd.pinned (.plain (OpenSpec.upto diffCostSpec)) diffCostUptoCard

/-- THE SECOND FORM's CARD OF 'trclaw22.DiffLines'. -/
def diffLinesUptoCard : Claim7 := { stood := { row := diffLinesUptoRow, standIns := [], harness := (true, "de601e27246c4730d93d70db6f01f3d072c318d2419dfbb05c1ed0837f0a9f85"), looks := false }, kinds := [], alts := [], laidByText := true, laidKinds := [.data, .pinned], laidTests := true, laidLooks := .later }
def DiffLinesUptoCardSaid : Prop := Claim7.holds Tryd.pinned (.plain (OpenSpec.upto diffLinesSpec)) diffLinesUptoCard

/-- THE SECOND FORM's CARD OF 'trclaw22.DiffApplies'. -/
def diffAppliesUptoCard : Claim7 := { stood := { row := diffAppliesUptoRow, standIns := [], harness := (true, "de601e27246c4730d93d70db6f01f3d072c318d2419dfbb05c1ed0837f0a9f85"), looks := false }, kinds := [], alts := [], laidByText := true, laidKinds := [.data, .pinned], laidTests := true, laidLooks := .later }
def DiffAppliesUptoCardSaid : Prop := Claim7.holds Tryd.pinned (.plain (OpenSpec.upto diffAppliesSpec)) diffAppliesUptoCard

/-- THE SECOND FORM's CARD OF 'trclaw22.DiffEdits'. -/
def diffEditsUptoCard : Claim7 := { stood := { row := diffEditsUptoRow, standIns := [], harness := (true, "de601e27246c4730d93d70db6f01f3d072c318d2419dfbb05c1ed0837f0a9f85"), looks := false }, kinds := [], alts := [], laidByText := true, laidKinds := [.data, .pinned], laidTests := true, laidLooks := .later }
def DiffEditsUptoCardSaid : Prop := Claim7.holds Tryd.pinned (.plain (OpenSpec.upto diffEditsSpec)) diffEditsUptoCard

/-- THE SECOND FORM's CARD OF 'trclaw22.DiffMissing'. -/
def diffMissingUptoCard : Claim7 := { stood := { row := diffMissingUptoRow, standIns := [], harness := (true, "de601e27246c4730d93d70db6f01f3d072c318d2419dfbb05c1ed0837f0a9f85"), looks := false }, kinds := [], alts := [], laidByText := true, laidKinds := [.data, .pinned], laidTests := true, laidLooks := .later }
def DiffMissingUptoCardSaid : Prop := Claim7.holds Tryd.pinned (.plain (OpenSpec.upto diffMissingSpec)) diffMissingUptoCard

/-- THE SECOND FORM's CARD OF 'trclaw22.DiffLimit'. -/
def diffLimitUptoCard : Claim7 := { stood := { row := diffLimitUptoRow, standIns := [], harness := (true, "de601e27246c4730d93d70db6f01f3d072c318d2419dfbb05c1ed0837f0a9f85"), looks := false }, kinds := [], alts := [], laidByText := true, laidKinds := [.data, .pinned], laidTests := true, laidLooks := .later }
def DiffLimitUptoCardSaid : Prop := Claim7.holds Tryd.pinned (.plain (OpenSpec.upto diffLimitSpec)) diffLimitUptoCard
end Rows
end Go.Proofs.YtakbpdlfgjfbeaaDoor
