/-
  DERIVED. GIVEN WITH THE SEED: THE CARDS: each row of YtbeijpajodgpeaaDoorRows.lean that lists a variable, with what it lists TIED to the program's text (the seventh form; the later family's looks); each row that meets fmt, with fmt's text TOLD by the authors' own Lean function (tested against real Go, not proved from fmt's source: count such statements apart). THE CARD IS WHAT COUNTS. Prove the row's statement (the work); the ties are given (YtbeijpajodgpeaaDoorTie.lean); close each card by the builder's one call (the guide's Derived/Test/ToyasCard.lean, 'card_holds'). Laid BY PROGRAM, IN A SANDBOX (cutbox-door.mjs). By AI agents, Wed Nov 11 2026. No macro, syntax, notation, axiom, sorry.
-/
import Derived.Test.YtbeijpajodgpeaaDoorRows
import GoSem.ClaimSeven
namespace Go.Proofs.YtbeijpajodgpeaaDoor
namespace Rows

/-- THE TIED CARD OF 'trclaw26.ChangeApart'. -/
def changeApartCard : Claim7 := { stood := { row := changeApartRow, standIns := [], harness := (true, "448964cdbea800bbf63e55f643e67d59fe5974a46fc68fca43df0ab107ed5d6e"), looks := false }, kinds := [], alts := [], laidByText := true, laidKinds := [.data, .pinned], laidTests := true, laidLooks := .later }
def ChangeApartCardSaid : Prop := Claim7.holds Tryd.pinned (.plain (OpenSpec.ofChange changeApartSpec)) changeApartCard

/-- THE TIED CARD OF 'trclaw26.ChangeLimits'. -/
def changeLimitsCard : Claim7 := { stood := { row := changeLimitsRow, standIns := [], harness := (true, "448964cdbea800bbf63e55f643e67d59fe5974a46fc68fca43df0ab107ed5d6e"), looks := false }, kinds := [], alts := [], laidByText := true, laidKinds := [.data, .pinned], laidTests := true, laidLooks := .later }
def ChangeLimitsCardSaid : Prop := Claim7.holds Tryd.pinned (.plain (OpenSpec.ofChange changeLimitsSpec)) changeLimitsCard

/-- THE TIED CARD OF 'trclaw26.ChangeValid'. -/
def changeValidCard : Claim7 := { stood := { row := changeValidRow, standIns := [], harness := (true, "448964cdbea800bbf63e55f643e67d59fe5974a46fc68fca43df0ab107ed5d6e"), looks := false }, kinds := [], alts := [], laidByText := true, laidKinds := [.data, .pinned], laidTests := true, laidLooks := .later }
def ChangeValidCardSaid : Prop := Claim7.holds Tryd.pinned (.plain (OpenSpec.ofChange changeValidSpec)) changeValidCard

/-- THE TIED CARD OF 'trclaw26.ChangeEncodes'. -/
def changeEncodesCard : Claim7 := { stood := { row := changeEncodesRow, standIns := [], harness := (true, "448964cdbea800bbf63e55f643e67d59fe5974a46fc68fca43df0ab107ed5d6e"), looks := false }, kinds := [], alts := [], laidByText := true, laidKinds := [.data, .pinned], laidTests := true, laidLooks := .later }
def ChangeEncodesCardSaid : Prop := Claim7.holds Tryd.pinned (.plain (OpenSpec.ofChange changeEncodesSpec)) changeEncodesCard

/-- THE TIED CARD OF 'trclaw26.ChangeDecodes'. -/
def changeDecodesCard : Claim7 := { stood := { row := changeDecodesRow, standIns := [], harness := (true, "448964cdbea800bbf63e55f643e67d59fe5974a46fc68fca43df0ab107ed5d6e"), looks := false }, kinds := [], alts := [], laidByText := true, laidKinds := [.data, .pinned], laidTests := true, laidLooks := .later }
def ChangeDecodesCardSaid : Prop := Claim7.holds Tryd.pinned (.plain (OpenSpec.ofChange changeDecodesSpec)) changeDecodesCard

/-- THE TIED CARD OF 'trclaw26.ChangeBack'. -/
def changeBackCard : Claim7 := { stood := { row := changeBackRow, standIns := [], harness := (true, "448964cdbea800bbf63e55f643e67d59fe5974a46fc68fca43df0ab107ed5d6e"), looks := false }, kinds := [], alts := [], laidByText := true, laidKinds := [.data, .pinned], laidTests := true, laidLooks := .later }
def ChangeBackCardSaid : Prop := Claim7.holds Tryd.pinned (.plain (OpenSpec.ofChange changeBackSpec)) changeBackCard

/-- THE TIED CARD OF 'trclaw26.ChangeCuts'. -/
def changeCutsCard : Claim7 := { stood := { row := changeCutsRow, standIns := [], harness := (true, "448964cdbea800bbf63e55f643e67d59fe5974a46fc68fca43df0ab107ed5d6e"), looks := false }, kinds := [], alts := [], laidByText := true, laidKinds := [.data, .pinned], laidTests := true, laidLooks := .later }
def ChangeCutsCardSaid : Prop := Claim7.holds Tryd.pinned (.plain (OpenSpec.ofChange changeCutsSpec)) changeCutsCard

/-- THE SECOND FORM's CARD OF 'trclaw26.ChangeApart'. -/
def changeApartUptoCard : Claim7 := { stood := { row := changeApartUptoRow, standIns := [], harness := (true, "448964cdbea800bbf63e55f643e67d59fe5974a46fc68fca43df0ab107ed5d6e"), looks := false }, kinds := [], alts := [], laidByText := true, laidKinds := [.data, .pinned], laidTests := true, laidLooks := .later }
def ChangeApartUptoCardSaid : Prop := Claim7.holds Tryd.pinned (.plain (OpenSpec.upto changeApartSpec)) changeApartUptoCard

/-- THE SECOND FORM's CARD OF 'trclaw26.ChangeLimits'. -/
def changeLimitsUptoCard : Claim7 := { stood := { row := changeLimitsUptoRow, standIns := [], harness := (true, "448964cdbea800bbf63e55f643e67d59fe5974a46fc68fca43df0ab107ed5d6e"), looks := false }, kinds := [], alts := [], laidByText := true, laidKinds := [.data, .pinned], laidTests := true, laidLooks := .later }
def ChangeLimitsUptoCardSaid : Prop := Claim7.holds Tryd.pinned (.plain (OpenSpec.upto changeLimitsSpec)) changeLimitsUptoCard

/-- THE SECOND FORM's CARD OF 'trclaw26.ChangeValid'. -/
def changeValidUptoCard : Claim7 := { stood := { row := changeValidUptoRow, standIns := [], harness := (true, "448964cdbea800bbf63e55f643e67d59fe5974a46fc68fca43df0ab107ed5d6e"), looks := false }, kinds := [], alts := [], laidByText := true, laidKinds := [.data, .pinned], laidTests := true, laidLooks := .later }
def ChangeValidUptoCardSaid : Prop := Claim7.holds Tryd.pinned (.plain (OpenSpec.upto changeValidSpec)) changeValidUptoCard

/-- THE SECOND FORM's CARD OF 'trclaw26.ChangeEncodes'. -/
def changeEncodesUptoCard : Claim7 := { stood := { row := changeEncodesUptoRow, standIns := [], harness := (true, "448964cdbea800bbf63e55f643e67d59fe5974a46fc68fca43df0ab107ed5d6e"), looks := false }, kinds := [], alts := [], laidByText := true, laidKinds := [.data, .pinned], laidTests := true, laidLooks := .later }
def ChangeEncodesUptoCardSaid : Prop := Claim7.holds Tryd.pinned (.plain (OpenSpec.upto changeEncodesSpec)) changeEncodesUptoCard

/-- THE SECOND FORM's CARD OF 'trclaw26.ChangeDecodes'. -/
def changeDecodesUptoCard : Claim7 := { stood := { row := changeDecodesUptoRow, standIns := [], harness := (true, "448964cdbea800bbf63e55f643e67d59fe5974a46fc68fca43df0ab107ed5d6e"), looks := false }, kinds := [], alts := [], laidByText := true, laidKinds := [.data, .pinned], laidTests := true, laidLooks := .later }
def ChangeDecodesUptoCardSaid : Prop := Claim7.holds Tryd.pinned (.plain (OpenSpec.upto changeDecodesSpec)) changeDecodesUptoCard

/-- THE SECOND FORM's CARD OF 'trclaw26.ChangeBack'. -/
def changeBackUptoCard : Claim7 := { stood := { row := changeBackUptoRow, standIns := [], harness := (true, "448964cdbea800bbf63e55f643e67d59fe5974a46fc68fca43df0ab107ed5d6e"), looks := false }, kinds := [], alts := [], laidByText := true, laidKinds := [.data, .pinned], laidTests := true, laidLooks := .later }
def ChangeBackUptoCardSaid : Prop := Claim7.holds Tryd.pinned (.plain (OpenSpec.upto changeBackSpec)) changeBackUptoCard

/-- THE SECOND FORM's CARD OF 'trclaw26.ChangeCuts'. -/
def changeCutsUptoCard : Claim7 := { stood := { row := changeCutsUptoRow, standIns := [], harness := (true, "448964cdbea800bbf63e55f643e67d59fe5974a46fc68fca43df0ab107ed5d6e"), looks := false }, kinds := [], alts := [], laidByText := true, laidKinds := [.data, .pinned], laidTests := true, laidLooks := .later }
def ChangeCutsUptoCardSaid : Prop := Claim7.holds Tryd.pinned (.plain (OpenSpec.upto changeCutsSpec)) changeCutsUptoCard
end Rows
end Go.Proofs.YtbeijpajodgpeaaDoor
