/-
  NARROWER THAN 'FOR EVERY INPUT', by the rows' own cells (each row's printed sentence says how): ChangeApart: laid · ChangeLimits: laid · ChangeValid: laid · ChangeEncodes: laid · ChangeDecodes: laid · ChangeBack: laid · ChangeCuts: laid.
  DERIVED. THE GIVEN ROWS OF THIS SEAT. 7 by the template 'for every input the law returns true; each argument reads behind the call as it read before'; 0 by the template 'total and deterministic' (their statements: YtbeijpajodgpeaaDoorTotals.lean).
  GIVEN WITH THE SEED: the statements are not yours to turn. If you find one false, say at which input.
  Laid BY PROGRAM, IN A SANDBOX (cutbox-rows.mjs): the forced cells as the released guide's own fill.sh prints them over the translation c528bb1c5fba14c3… (all of the seat's roots in one cut). By AI agents, Wed Nov 11 2026. No macro, syntax, notation, axiom, sorry.
-/
import Derived.Test.YtbeijpajodgpeaaDoorChecked
import GoSem.PinnedTables
import GoSem.Claim
import GoSem.ClaimJoined
import GoSem.ClaimMapViews
import Derived.JoinedTies
import Derived.KernelRfl
namespace Go.Proofs.YtbeijpajodgpeaaDoor
/- THE CELL 'sum', in the pinned program and in every row, IS THE sha256 OF THE DUMP (.gsa) THAT YtbeijpajodgpeaaDoorProg.lean LOADS. Nothing in Lean hashes anything: it is a label: what it is worth is what the hold of that sum in a sandbox is worth. -/
noncomputable def Tryd.pinned : Pinned := { name := "ytbeijpajodgpeaadoor", sum := "c528bb1c5fba14c307cb10f912662abb79d7fba2f1457b4d017d7bec8f54abcb", checked := Tryd.checked }
namespace Rows
def none {H : Type} : Left H := { results := [], args := [] }

/- WHAT THE LISTED PACKAGE-LEVEL VARIABLES READ AS WHEN THE CALL BEGINS. Each datum BY PROGRAM (the guide's laid-datum.mjs) off the statement by which the dump's own 'gosem.cut.vars' lays the variable. In a bare row this is a premise. The card (YtbeijpajodgpeaaDoorCards.lean) ties it to the program's text. -/
def laid_unicode_utf8_acceptRanges {H : Type} : DataW H := .agg [.agg [.lit (.int .u8 128), .lit (.int .u8 191)], .agg [.lit (.int .u8 160), .lit (.int .u8 191)], .agg [.lit (.int .u8 128), .lit (.int .u8 159)], .agg [.lit (.int .u8 144), .lit (.int .u8 191)], .agg [.lit (.int .u8 128), .lit (.int .u8 143)], .agg [.lit (.int .u8 0), .lit (.int .u8 0)], .agg [.lit (.int .u8 0), .lit (.int .u8 0)], .agg [.lit (.int .u8 0), .lit (.int .u8 0)], .agg [.lit (.int .u8 0), .lit (.int .u8 0)], .agg [.lit (.int .u8 0), .lit (.int .u8 0)], .agg [.lit (.int .u8 0), .lit (.int .u8 0)], .agg [.lit (.int .u8 0), .lit (.int .u8 0)], .agg [.lit (.int .u8 0), .lit (.int .u8 0)], .agg [.lit (.int .u8 0), .lit (.int .u8 0)], .agg [.lit (.int .u8 0), .lit (.int .u8 0)], .agg [.lit (.int .u8 0), .lit (.int .u8 0)]]
/-- One of Go's own tables, pinned by name: the form's constant. -/
def laid_unicode_utf8_first : DataW Unit := Go.Pinned.utf8First

/-- 'trclaw26.ChangeApart': WHATEVER THE INPUT: true; the input reads as it did. -/
def changeApartSpec : ChangeSpec := { name := "changeApart", fn := fun _ => fun
  | [d1, d2, d3, d4] => { results := [.lit (.bool true)], args := [d1, d2, d3, d4] }
  | _ => none }
def changeApartRow : OpenClaim := { program := "ytbeijpajodgpeaadoor", sum := "c528bb1c5fba14c307cb10f912662abb79d7fba2f1457b4d017d7bec8f54abcb", func := "transclude/trclaw26.ChangeApart", spec := "changeApart", inPlace := ["internal/bytealg.IndexByteString", "internal/bytealg.CountString", "internal/bytealg.IndexString"], named := ["unicode/utf8.first", "unicode/utf8.acceptRanges", "internal/bytealg.MaxLen"], apart := false, laid := [("unicode/utf8.acceptRanges", laid_unicode_utf8_acceptRanges), ("unicode/utf8.first", laid_unicode_utf8_first)] }
def ChangeApartSaid : Prop := changeApartRow.holds Tryd.pinned (OpenSpec.ofChange changeApartSpec)

/-- ITS FALSE NEIGHBOUR: 'it returns false'. Refute it at one input. -/
def changeApartWrong : ChangeSpec := { name := "changeApart", fn := fun _ => fun
  | [d1, d2, d3, d4] => { results := [.lit (.bool false)], args := [d1, d2, d3, d4] }
  | _ => none }
def ChangeApartWrongFalsely : Prop := changeApartRow.holds Tryd.pinned (OpenSpec.ofChange changeApartWrong)

/-- 'trclaw26.ChangeLimits': WHATEVER THE INPUT: true; the input reads as it did. -/
def changeLimitsSpec : ChangeSpec := { name := "changeLimits", fn := fun _ => fun
  | [d1, d2] => { results := [.lit (.bool true)], args := [d1, d2] }
  | _ => none }
def changeLimitsRow : OpenClaim := { program := "ytbeijpajodgpeaadoor", sum := "c528bb1c5fba14c307cb10f912662abb79d7fba2f1457b4d017d7bec8f54abcb", func := "transclude/trclaw26.ChangeLimits", spec := "changeLimits", inPlace := ["internal/bytealg.IndexByteString", "internal/bytealg.CountString", "internal/bytealg.IndexString"], named := ["unicode/utf8.first", "unicode/utf8.acceptRanges", "internal/bytealg.MaxLen"], apart := false, laid := [("unicode/utf8.acceptRanges", laid_unicode_utf8_acceptRanges), ("unicode/utf8.first", laid_unicode_utf8_first)] }
def ChangeLimitsSaid : Prop := changeLimitsRow.holds Tryd.pinned (OpenSpec.ofChange changeLimitsSpec)

/-- ITS FALSE NEIGHBOUR: 'it returns false'. Refute it at one input. -/
def changeLimitsWrong : ChangeSpec := { name := "changeLimits", fn := fun _ => fun
  | [d1, d2] => { results := [.lit (.bool false)], args := [d1, d2] }
  | _ => none }
def ChangeLimitsWrongFalsely : Prop := changeLimitsRow.holds Tryd.pinned (OpenSpec.ofChange changeLimitsWrong)

/-- 'trclaw26.ChangeValid': WHATEVER THE INPUT: true; the input reads as it did. -/
def changeValidSpec : ChangeSpec := { name := "changeValid", fn := fun _ => fun
  | [d1, d2, d3, d4, d5] => { results := [.lit (.bool true)], args := [d1, d2, d3, d4, d5] }
  | _ => none }
def changeValidRow : OpenClaim := { program := "ytbeijpajodgpeaadoor", sum := "c528bb1c5fba14c307cb10f912662abb79d7fba2f1457b4d017d7bec8f54abcb", func := "transclude/trclaw26.ChangeValid", spec := "changeValid", inPlace := ["internal/bytealg.IndexByteString", "internal/bytealg.CountString", "internal/bytealg.IndexString"], named := ["unicode/utf8.first", "unicode/utf8.acceptRanges", "internal/bytealg.MaxLen"], apart := false, laid := [("unicode/utf8.acceptRanges", laid_unicode_utf8_acceptRanges), ("unicode/utf8.first", laid_unicode_utf8_first)] }
def ChangeValidSaid : Prop := changeValidRow.holds Tryd.pinned (OpenSpec.ofChange changeValidSpec)

/-- ITS FALSE NEIGHBOUR: 'it returns false'. Refute it at one input. -/
def changeValidWrong : ChangeSpec := { name := "changeValid", fn := fun _ => fun
  | [d1, d2, d3, d4, d5] => { results := [.lit (.bool false)], args := [d1, d2, d3, d4, d5] }
  | _ => none }
def ChangeValidWrongFalsely : Prop := changeValidRow.holds Tryd.pinned (OpenSpec.ofChange changeValidWrong)

/-- 'trclaw26.ChangeEncodes': WHATEVER THE INPUT: true; the input reads as it did. -/
def changeEncodesSpec : ChangeSpec := { name := "changeEncodes", fn := fun _ => fun
  | [d1, d2, d3, d4, d5] => { results := [.lit (.bool true)], args := [d1, d2, d3, d4, d5] }
  | _ => none }
def changeEncodesRow : OpenClaim := { program := "ytbeijpajodgpeaadoor", sum := "c528bb1c5fba14c307cb10f912662abb79d7fba2f1457b4d017d7bec8f54abcb", func := "transclude/trclaw26.ChangeEncodes", spec := "changeEncodes", inPlace := ["internal/bytealg.IndexByteString", "internal/bytealg.CountString", "internal/bytealg.IndexString"], named := ["unicode/utf8.first", "unicode/utf8.acceptRanges", "internal/bytealg.MaxLen"], apart := false, laid := [("unicode/utf8.acceptRanges", laid_unicode_utf8_acceptRanges), ("unicode/utf8.first", laid_unicode_utf8_first)] }
def ChangeEncodesSaid : Prop := changeEncodesRow.holds Tryd.pinned (OpenSpec.ofChange changeEncodesSpec)

/-- ITS FALSE NEIGHBOUR: 'it returns false'. Refute it at one input. -/
def changeEncodesWrong : ChangeSpec := { name := "changeEncodes", fn := fun _ => fun
  | [d1, d2, d3, d4, d5] => { results := [.lit (.bool false)], args := [d1, d2, d3, d4, d5] }
  | _ => none }
def ChangeEncodesWrongFalsely : Prop := changeEncodesRow.holds Tryd.pinned (OpenSpec.ofChange changeEncodesWrong)

/-- 'trclaw26.ChangeDecodes': WHATEVER THE INPUT: true; the input reads as it did. -/
def changeDecodesSpec : ChangeSpec := { name := "changeDecodes", fn := fun _ => fun
  | [d1, d2, d3, d4, d5] => { results := [.lit (.bool true)], args := [d1, d2, d3, d4, d5] }
  | _ => none }
def changeDecodesRow : OpenClaim := { program := "ytbeijpajodgpeaadoor", sum := "c528bb1c5fba14c307cb10f912662abb79d7fba2f1457b4d017d7bec8f54abcb", func := "transclude/trclaw26.ChangeDecodes", spec := "changeDecodes", inPlace := ["internal/bytealg.IndexByteString", "internal/bytealg.CountString", "internal/bytealg.IndexString"], named := ["unicode/utf8.first", "unicode/utf8.acceptRanges", "internal/bytealg.MaxLen"], apart := false, laid := [("unicode/utf8.acceptRanges", laid_unicode_utf8_acceptRanges), ("unicode/utf8.first", laid_unicode_utf8_first)] }
def ChangeDecodesSaid : Prop := changeDecodesRow.holds Tryd.pinned (OpenSpec.ofChange changeDecodesSpec)

/-- ITS FALSE NEIGHBOUR: 'it returns false'. Refute it at one input. -/
def changeDecodesWrong : ChangeSpec := { name := "changeDecodes", fn := fun _ => fun
  | [d1, d2, d3, d4, d5] => { results := [.lit (.bool false)], args := [d1, d2, d3, d4, d5] }
  | _ => none }
def ChangeDecodesWrongFalsely : Prop := changeDecodesRow.holds Tryd.pinned (OpenSpec.ofChange changeDecodesWrong)

/-- 'trclaw26.ChangeBack': WHATEVER THE INPUT: true; the input reads as it did. -/
def changeBackSpec : ChangeSpec := { name := "changeBack", fn := fun _ => fun
  | [d1, d2] => { results := [.lit (.bool true)], args := [d1, d2] }
  | _ => none }
def changeBackRow : OpenClaim := { program := "ytbeijpajodgpeaadoor", sum := "c528bb1c5fba14c307cb10f912662abb79d7fba2f1457b4d017d7bec8f54abcb", func := "transclude/trclaw26.ChangeBack", spec := "changeBack", inPlace := ["internal/bytealg.IndexByteString", "internal/bytealg.CountString", "internal/bytealg.IndexString"], named := ["unicode/utf8.first", "unicode/utf8.acceptRanges", "internal/bytealg.MaxLen"], apart := false, laid := [("unicode/utf8.acceptRanges", laid_unicode_utf8_acceptRanges), ("unicode/utf8.first", laid_unicode_utf8_first)] }
def ChangeBackSaid : Prop := changeBackRow.holds Tryd.pinned (OpenSpec.ofChange changeBackSpec)

/-- ITS FALSE NEIGHBOUR: 'it returns false'. Refute it at one input. -/
def changeBackWrong : ChangeSpec := { name := "changeBack", fn := fun _ => fun
  | [d1, d2] => { results := [.lit (.bool false)], args := [d1, d2] }
  | _ => none }
def ChangeBackWrongFalsely : Prop := changeBackRow.holds Tryd.pinned (OpenSpec.ofChange changeBackWrong)

/-- 'trclaw26.ChangeCuts': WHATEVER THE INPUT: true; the input reads as it did. -/
def changeCutsSpec : ChangeSpec := { name := "changeCuts", fn := fun _ => fun
  | [d1, d2, d3] => { results := [.lit (.bool true)], args := [d1, d2, d3] }
  | _ => none }
def changeCutsRow : OpenClaim := { program := "ytbeijpajodgpeaadoor", sum := "c528bb1c5fba14c307cb10f912662abb79d7fba2f1457b4d017d7bec8f54abcb", func := "transclude/trclaw26.ChangeCuts", spec := "changeCuts", inPlace := ["internal/bytealg.IndexByteString", "internal/bytealg.CountString", "internal/bytealg.IndexString"], named := ["unicode/utf8.first", "unicode/utf8.acceptRanges", "internal/bytealg.MaxLen"], apart := false, laid := [("unicode/utf8.acceptRanges", laid_unicode_utf8_acceptRanges), ("unicode/utf8.first", laid_unicode_utf8_first)] }
def ChangeCutsSaid : Prop := changeCutsRow.holds Tryd.pinned (OpenSpec.ofChange changeCutsSpec)

/-- ITS FALSE NEIGHBOUR: 'it returns false'. Refute it at one input. -/
def changeCutsWrong : ChangeSpec := { name := "changeCuts", fn := fun _ => fun
  | [d1, d2, d3] => { results := [.lit (.bool false)], args := [d1, d2, d3] }
  | _ => none }
def ChangeCutsWrongFalsely : Prop := changeCutsRow.holds Tryd.pinned (OpenSpec.ofChange changeCutsWrong)

/- THE SECOND FORM. 'bulk': how many values and letters a reading holds, each counted each time it is reached (what is shared counts as often as it is met; a slice's spare places count too). A statement '..UptoSaid' is the law's where the arguments, and the package variables that the reading takes, are together of bulk at most 1048576: NARROWER than '..Said'. Prove '..Said' where nothing that the law and all that it calls make is longer than what came in: it says more and counts as full. Else prove '..UptoSaid'. A law counts once. -/
mutual
def uptoBulk {H : Type} : DataW H → Nat
  | .lit (.string bytes) => bytes.length + 1
  | .lit _ => 1
  | .nil => 1
  | .ptr d => uptoBulk d + 1
  | .slice elems spare => uptoBulkAll elems + uptoBulkAll spare + 1
  | .agg parts => uptoBulkAll parts + 1
  | .iface _ d => uptoBulk d + 1
  | .map entries => uptoBulkEntries entries + 1
  | .held _ => 1
def uptoBulkAll {H : Type} : List (DataW H) → Nat
  | [] => 0
  | d :: r => uptoBulk d + uptoBulkAll r
def uptoBulkEntries {H : Type} : List (Lit × DataW H) → Nat
  | [] => 0
  | x :: r => uptoBulkEntry x + uptoBulkEntries r
def uptoBulkEntry {H : Type} : Lit × DataW H → Nat
  | (.string bytes, d) => bytes.length + uptoBulk d + 1
  | (_, d) => uptoBulk d + 1
 end
def uptoSmall : (H : Type) → List (DataW H) → Bool := fun _ ds => decide (uptoBulkAll ds ≤ 1048576)
def OpenSpec.upto (s : _root_.Go.ChangeSpec) : _root_.Go.OpenSpec := { _root_.Go.OpenSpec.ofChange s with cond := some uptoSmall }

/-- 'trclaw26.ChangeApart', WHERE WHAT IT READS IS OF BULK AT MOST 1048576: true; the input reads as it did. -/
def changeApartUptoRow : OpenClaim := { program := "ytbeijpajodgpeaadoor", sum := "c528bb1c5fba14c307cb10f912662abb79d7fba2f1457b4d017d7bec8f54abcb", func := "transclude/trclaw26.ChangeApart", spec := "changeApart", inPlace := ["internal/bytealg.IndexByteString", "internal/bytealg.CountString", "internal/bytealg.IndexString"], named := ["unicode/utf8.first", "unicode/utf8.acceptRanges", "internal/bytealg.MaxLen"], apart := false, laid := [("unicode/utf8.acceptRanges", laid_unicode_utf8_acceptRanges), ("unicode/utf8.first", laid_unicode_utf8_first)], narrowed := true }
def ChangeApartUptoSaid : Prop := changeApartUptoRow.holds Tryd.pinned (OpenSpec.upto changeApartSpec)

/-- 'trclaw26.ChangeLimits', WHERE WHAT IT READS IS OF BULK AT MOST 1048576: true; the input reads as it did. -/
def changeLimitsUptoRow : OpenClaim := { program := "ytbeijpajodgpeaadoor", sum := "c528bb1c5fba14c307cb10f912662abb79d7fba2f1457b4d017d7bec8f54abcb", func := "transclude/trclaw26.ChangeLimits", spec := "changeLimits", inPlace := ["internal/bytealg.IndexByteString", "internal/bytealg.CountString", "internal/bytealg.IndexString"], named := ["unicode/utf8.first", "unicode/utf8.acceptRanges", "internal/bytealg.MaxLen"], apart := false, laid := [("unicode/utf8.acceptRanges", laid_unicode_utf8_acceptRanges), ("unicode/utf8.first", laid_unicode_utf8_first)], narrowed := true }
def ChangeLimitsUptoSaid : Prop := changeLimitsUptoRow.holds Tryd.pinned (OpenSpec.upto changeLimitsSpec)

/-- 'trclaw26.ChangeValid', WHERE WHAT IT READS IS OF BULK AT MOST 1048576: true; the input reads as it did. -/
def changeValidUptoRow : OpenClaim := { program := "ytbeijpajodgpeaadoor", sum := "c528bb1c5fba14c307cb10f912662abb79d7fba2f1457b4d017d7bec8f54abcb", func := "transclude/trclaw26.ChangeValid", spec := "changeValid", inPlace := ["internal/bytealg.IndexByteString", "internal/bytealg.CountString", "internal/bytealg.IndexString"], named := ["unicode/utf8.first", "unicode/utf8.acceptRanges", "internal/bytealg.MaxLen"], apart := false, laid := [("unicode/utf8.acceptRanges", laid_unicode_utf8_acceptRanges), ("unicode/utf8.first", laid_unicode_utf8_first)], narrowed := true }
def ChangeValidUptoSaid : Prop := changeValidUptoRow.holds Tryd.pinned (OpenSpec.upto changeValidSpec)

/-- 'trclaw26.ChangeEncodes', WHERE WHAT IT READS IS OF BULK AT MOST 1048576: true; the input reads as it did. -/
def changeEncodesUptoRow : OpenClaim := { program := "ytbeijpajodgpeaadoor", sum := "c528bb1c5fba14c307cb10f912662abb79d7fba2f1457b4d017d7bec8f54abcb", func := "transclude/trclaw26.ChangeEncodes", spec := "changeEncodes", inPlace := ["internal/bytealg.IndexByteString", "internal/bytealg.CountString", "internal/bytealg.IndexString"], named := ["unicode/utf8.first", "unicode/utf8.acceptRanges", "internal/bytealg.MaxLen"], apart := false, laid := [("unicode/utf8.acceptRanges", laid_unicode_utf8_acceptRanges), ("unicode/utf8.first", laid_unicode_utf8_first)], narrowed := true }
def ChangeEncodesUptoSaid : Prop := changeEncodesUptoRow.holds Tryd.pinned (OpenSpec.upto changeEncodesSpec)

/-- 'trclaw26.ChangeDecodes', WHERE WHAT IT READS IS OF BULK AT MOST 1048576: true; the input reads as it did. -/
def changeDecodesUptoRow : OpenClaim := { program := "ytbeijpajodgpeaadoor", sum := "c528bb1c5fba14c307cb10f912662abb79d7fba2f1457b4d017d7bec8f54abcb", func := "transclude/trclaw26.ChangeDecodes", spec := "changeDecodes", inPlace := ["internal/bytealg.IndexByteString", "internal/bytealg.CountString", "internal/bytealg.IndexString"], named := ["unicode/utf8.first", "unicode/utf8.acceptRanges", "internal/bytealg.MaxLen"], apart := false, laid := [("unicode/utf8.acceptRanges", laid_unicode_utf8_acceptRanges), ("unicode/utf8.first", laid_unicode_utf8_first)], narrowed := true }
def ChangeDecodesUptoSaid : Prop := changeDecodesUptoRow.holds Tryd.pinned (OpenSpec.upto changeDecodesSpec)

/-- 'trclaw26.ChangeBack', WHERE WHAT IT READS IS OF BULK AT MOST 1048576: true; the input reads as it did. -/
def changeBackUptoRow : OpenClaim := { program := "ytbeijpajodgpeaadoor", sum := "c528bb1c5fba14c307cb10f912662abb79d7fba2f1457b4d017d7bec8f54abcb", func := "transclude/trclaw26.ChangeBack", spec := "changeBack", inPlace := ["internal/bytealg.IndexByteString", "internal/bytealg.CountString", "internal/bytealg.IndexString"], named := ["unicode/utf8.first", "unicode/utf8.acceptRanges", "internal/bytealg.MaxLen"], apart := false, laid := [("unicode/utf8.acceptRanges", laid_unicode_utf8_acceptRanges), ("unicode/utf8.first", laid_unicode_utf8_first)], narrowed := true }
def ChangeBackUptoSaid : Prop := changeBackUptoRow.holds Tryd.pinned (OpenSpec.upto changeBackSpec)

/-- 'trclaw26.ChangeCuts', WHERE WHAT IT READS IS OF BULK AT MOST 1048576: true; the input reads as it did. -/
def changeCutsUptoRow : OpenClaim := { program := "ytbeijpajodgpeaadoor", sum := "c528bb1c5fba14c307cb10f912662abb79d7fba2f1457b4d017d7bec8f54abcb", func := "transclude/trclaw26.ChangeCuts", spec := "changeCuts", inPlace := ["internal/bytealg.IndexByteString", "internal/bytealg.CountString", "internal/bytealg.IndexString"], named := ["unicode/utf8.first", "unicode/utf8.acceptRanges", "internal/bytealg.MaxLen"], apart := false, laid := [("unicode/utf8.acceptRanges", laid_unicode_utf8_acceptRanges), ("unicode/utf8.first", laid_unicode_utf8_first)], narrowed := true }
def ChangeCutsUptoSaid : Prop := changeCutsUptoRow.holds Tryd.pinned (OpenSpec.upto changeCutsSpec)

end Rows
end Go.Proofs.YtbeijpajodgpeaaDoor
