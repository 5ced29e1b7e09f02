/-
  DERIVED. GIVEN WITH THE SEED: THE CARDS: each row of YtobgnncdldfkkaaDoorRows.lean that lists a variable, with what it lists TIED to the program's text (the seventh form; the later family's looks); each row that meets fmt, with fmt's text TOLD by the authors' own Lean function (tested against real Go, not proved from fmt's source: count such statements apart). THE CARD IS WHAT COUNTS. Prove the row's statement (the work); the ties are given (YtobgnncdldfkkaaDoorTie.lean); close each card by the builder's one call (the guide's Derived/Test/ToyasCard.lean, 'card_holds'). Laid BY PROGRAM, IN A SANDBOX (cutbox-door.mjs). By AI agents, Wed Nov 11 2026. No macro, syntax, notation, axiom, sorry.
-/
import Derived.Test.YtobgnncdldfkkaaDoorRows
import GoSem.ClaimSeven
namespace Go.Proofs.YtobgnncdldfkkaaDoor
namespace Rows

/-- THE TIED CARD OF 'trclaw38.QueueAny'. -/
def queueAnyCard : Claim7 := { stood := { row := queueAnyRow, standIns := [], harness := (true, "d90ae985a5e70abe1d5f4780cf3ee773ce48e8593aa9a39f76ebb1e08eb4fd17"), looks := false }, kinds := [], alts := [], laidByText := true, laidKinds := [.data, .pinned], laidTests := true, laidLooks := .later }
def QueueAnyCardSaid : Prop := Claim7.holds Tryd.pinned (.plain (OpenSpec.ofChange queueAnySpec)) queueAnyCard

/-- THE TIED CARD OF 'trclaw38.QueueMade'. -/
def queueMadeCard : Claim7 := { stood := { row := queueMadeRow, standIns := [], harness := (true, "d90ae985a5e70abe1d5f4780cf3ee773ce48e8593aa9a39f76ebb1e08eb4fd17"), looks := false }, kinds := [], alts := [], laidByText := true, laidKinds := [.data, .pinned], laidTests := true, laidLooks := .later }
def QueueMadeCardSaid : Prop := Claim7.holds Tryd.pinned (.plain (OpenSpec.ofChange queueMadeSpec)) queueMadeCard

/-- THE TIED CARD OF 'trclaw38.QueueKeeps'. -/
def queueKeepsCard : Claim7 := { stood := { row := queueKeepsRow, standIns := [], harness := (true, "d90ae985a5e70abe1d5f4780cf3ee773ce48e8593aa9a39f76ebb1e08eb4fd17"), looks := false }, kinds := [], alts := [], laidByText := true, laidKinds := [.data, .pinned], laidTests := true, laidLooks := .later }
def QueueKeepsCardSaid : Prop := Claim7.holds Tryd.pinned (.plain (OpenSpec.ofChange queueKeepsSpec)) queueKeepsCard

/-- THE TIED CARD OF 'trclaw38.QueueStages'. -/
def queueStagesCard : Claim7 := { stood := { row := queueStagesRow, standIns := [], harness := (true, "d90ae985a5e70abe1d5f4780cf3ee773ce48e8593aa9a39f76ebb1e08eb4fd17"), looks := false }, kinds := [], alts := [], laidByText := true, laidKinds := [.data, .pinned], laidTests := true, laidLooks := .later }
def QueueStagesCardSaid : Prop := Claim7.holds Tryd.pinned (.plain (OpenSpec.ofChange queueStagesSpec)) queueStagesCard

/-- THE TIED CARD OF 'trclaw38.QueueOrder'. -/
def queueOrderCard : Claim7 := { stood := { row := queueOrderRow, standIns := [], harness := (true, "d90ae985a5e70abe1d5f4780cf3ee773ce48e8593aa9a39f76ebb1e08eb4fd17"), looks := false }, kinds := [], alts := [], laidByText := true, laidKinds := [.data, .pinned], laidTests := true, laidLooks := .later }
def QueueOrderCardSaid : Prop := Claim7.holds Tryd.pinned (.plain (OpenSpec.ofChange queueOrderSpec)) queueOrderCard

/-- THE TIED CARD OF 'trclaw38.QueueBack'. -/
def queueBackCard : Claim7 := { stood := { row := queueBackRow, standIns := [], harness := (true, "d90ae985a5e70abe1d5f4780cf3ee773ce48e8593aa9a39f76ebb1e08eb4fd17"), looks := false }, kinds := [], alts := [], laidByText := true, laidKinds := [.data, .pinned], laidTests := true, laidLooks := .later }
def QueueBackCardSaid : Prop := Claim7.holds Tryd.pinned (.plain (OpenSpec.ofChange queueBackSpec)) queueBackCard

/-- THE TIED CARD OF 'trclaw38.QueuePlays'. -/
def queuePlaysCard : Claim7 := { stood := { row := queuePlaysRow, standIns := [], harness := (true, "d90ae985a5e70abe1d5f4780cf3ee773ce48e8593aa9a39f76ebb1e08eb4fd17"), looks := false }, kinds := [], alts := [], laidByText := true, laidKinds := [.data, .pinned], laidTests := true, laidLooks := .later }
def QueuePlaysCardSaid : Prop := Claim7.holds Tryd.pinned (.plain (OpenSpec.ofChange queuePlaysSpec)) queuePlaysCard

/-- THE SECOND FORM's CARD OF 'trclaw38.QueueAny'. -/
def queueAnyUptoCard : Claim7 := { stood := { row := queueAnyUptoRow, standIns := [], harness := (true, "d90ae985a5e70abe1d5f4780cf3ee773ce48e8593aa9a39f76ebb1e08eb4fd17"), looks := false }, kinds := [], alts := [], laidByText := true, laidKinds := [.data, .pinned], laidTests := true, laidLooks := .later }
def QueueAnyUptoCardSaid : Prop := Claim7.holds Tryd.pinned (.plain (OpenSpec.upto queueAnySpec)) queueAnyUptoCard

/-- THE SECOND FORM's CARD OF 'trclaw38.QueueMade'. -/
def queueMadeUptoCard : Claim7 := { stood := { row := queueMadeUptoRow, standIns := [], harness := (true, "d90ae985a5e70abe1d5f4780cf3ee773ce48e8593aa9a39f76ebb1e08eb4fd17"), looks := false }, kinds := [], alts := [], laidByText := true, laidKinds := [.data, .pinned], laidTests := true, laidLooks := .later }
def QueueMadeUptoCardSaid : Prop := Claim7.holds Tryd.pinned (.plain (OpenSpec.upto queueMadeSpec)) queueMadeUptoCard

/-- THE SECOND FORM's CARD OF 'trclaw38.QueueKeeps'. -/
def queueKeepsUptoCard : Claim7 := { stood := { row := queueKeepsUptoRow, standIns := [], harness := (true, "d90ae985a5e70abe1d5f4780cf3ee773ce48e8593aa9a39f76ebb1e08eb4fd17"), looks := false }, kinds := [], alts := [], laidByText := true, laidKinds := [.data, .pinned], laidTests := true, laidLooks := .later }
def QueueKeepsUptoCardSaid : Prop := Claim7.holds Tryd.pinned (.plain (OpenSpec.upto queueKeepsSpec)) queueKeepsUptoCard

/-- THE SECOND FORM's CARD OF 'trclaw38.QueueStages'. -/
def queueStagesUptoCard : Claim7 := { stood := { row := queueStagesUptoRow, standIns := [], harness := (true, "d90ae985a5e70abe1d5f4780cf3ee773ce48e8593aa9a39f76ebb1e08eb4fd17"), looks := false }, kinds := [], alts := [], laidByText := true, laidKinds := [.data, .pinned], laidTests := true, laidLooks := .later }
def QueueStagesUptoCardSaid : Prop := Claim7.holds Tryd.pinned (.plain (OpenSpec.upto queueStagesSpec)) queueStagesUptoCard

/-- THE SECOND FORM's CARD OF 'trclaw38.QueueOrder'. -/
def queueOrderUptoCard : Claim7 := { stood := { row := queueOrderUptoRow, standIns := [], harness := (true, "d90ae985a5e70abe1d5f4780cf3ee773ce48e8593aa9a39f76ebb1e08eb4fd17"), looks := false }, kinds := [], alts := [], laidByText := true, laidKinds := [.data, .pinned], laidTests := true, laidLooks := .later }
def QueueOrderUptoCardSaid : Prop := Claim7.holds Tryd.pinned (.plain (OpenSpec.upto queueOrderSpec)) queueOrderUptoCard

/-- THE SECOND FORM's CARD OF 'trclaw38.QueueBack'. -/
def queueBackUptoCard : Claim7 := { stood := { row := queueBackUptoRow, standIns := [], harness := (true, "d90ae985a5e70abe1d5f4780cf3ee773ce48e8593aa9a39f76ebb1e08eb4fd17"), looks := false }, kinds := [], alts := [], laidByText := true, laidKinds := [.data, .pinned], laidTests := true, laidLooks := .later }
def QueueBackUptoCardSaid : Prop := Claim7.holds Tryd.pinned (.plain (OpenSpec.upto queueBackSpec)) queueBackUptoCard

/-- THE SECOND FORM's CARD OF 'trclaw38.QueuePlays'. -/
def queuePlaysUptoCard : Claim7 := { stood := { row := queuePlaysUptoRow, standIns := [], harness := (true, "d90ae985a5e70abe1d5f4780cf3ee773ce48e8593aa9a39f76ebb1e08eb4fd17"), looks := false }, kinds := [], alts := [], laidByText := true, laidKinds := [.data, .pinned], laidTests := true, laidLooks := .later }
def QueuePlaysUptoCardSaid : Prop := Claim7.holds Tryd.pinned (.plain (OpenSpec.upto queuePlaysSpec)) queuePlaysUptoCard
end Rows
end Go.Proofs.YtobgnncdldfkkaaDoor
