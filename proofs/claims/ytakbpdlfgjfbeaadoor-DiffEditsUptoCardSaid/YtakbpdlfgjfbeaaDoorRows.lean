/-
  NARROWER THAN 'FOR EVERY INPUT', by the rows' own cells (each row's printed sentence says how): DiffExact: laid · DiffShape: laid · DiffCost: laid · DiffLines: laid · DiffApplies: laid · DiffEdits: laid · DiffMissing: laid · DiffLimit: laid.
  DERIVED. THE GIVEN ROWS OF THIS SEAT. 8 by the template 'for every input the law returns true; each argument reads behind the call as it read before'; 0 by the template 'total and deterministic' (their statements: YtakbpdlfgjfbeaaDoorTotals.lean).
  GIVEN WITH THE SEED: the statements are not yours to turn. If you find one false, say at which input.
  Laid BY PROGRAM, IN A SANDBOX (cutbox-rows.mjs): the forced cells as the released guide's own fill.sh prints them over the translation f61e0bd4bd4281d1… (all of the seat's roots in one cut). By AI agents, Wed Nov 11 2026. No macro, syntax, notation, axiom, sorry.
-/
import Derived.Test.YtakbpdlfgjfbeaaDoorChecked
import GoSem.PinnedTables
import GoSem.Claim
import GoSem.ClaimJoined
import GoSem.ClaimMapViews
import Derived.JoinedTies
import Derived.KernelRfl
namespace Go.Proofs.YtakbpdlfgjfbeaaDoor
/- THE CELL 'sum', in the pinned program and in every row, IS THE sha256 OF THE DUMP (.gsa) THAT YtakbpdlfgjfbeaaDoorProg.lean LOADS. Nothing in Lean hashes anything: it is a label: what it is worth is what the hold of that sum in a sandbox is worth. -/
noncomputable def Tryd.pinned : Pinned := { name := "ytakbpdlfgjfbeaadoor", sum := "f61e0bd4bd4281d15b5046a5d9da4a7c5be5411b681cc615be35e6c1a1954477", checked := Tryd.checked }
namespace Rows
def none {H : Type} : Left H := { results := [], args := [] }

/- WHAT THE LISTED PACKAGE-LEVEL VARIABLES READ AS WHEN THE CALL BEGINS. Each datum BY PROGRAM (the guide's laid-datum.mjs) off the statement by which the dump's own 'gosem.cut.vars' lays the variable. In a bare row this is a premise. The card (YtakbpdlfgjfbeaaDoorCards.lean) ties it to the program's text. -/
def laid_unicode_utf8_acceptRanges {H : Type} : DataW H := .agg [.agg [.lit (.int .u8 128), .lit (.int .u8 191)], .agg [.lit (.int .u8 160), .lit (.int .u8 191)], .agg [.lit (.int .u8 128), .lit (.int .u8 159)], .agg [.lit (.int .u8 144), .lit (.int .u8 191)], .agg [.lit (.int .u8 128), .lit (.int .u8 143)], .agg [.lit (.int .u8 0), .lit (.int .u8 0)], .agg [.lit (.int .u8 0), .lit (.int .u8 0)], .agg [.lit (.int .u8 0), .lit (.int .u8 0)], .agg [.lit (.int .u8 0), .lit (.int .u8 0)], .agg [.lit (.int .u8 0), .lit (.int .u8 0)], .agg [.lit (.int .u8 0), .lit (.int .u8 0)], .agg [.lit (.int .u8 0), .lit (.int .u8 0)], .agg [.lit (.int .u8 0), .lit (.int .u8 0)], .agg [.lit (.int .u8 0), .lit (.int .u8 0)], .agg [.lit (.int .u8 0), .lit (.int .u8 0)], .agg [.lit (.int .u8 0), .lit (.int .u8 0)]]
/-- One of Go's own tables, pinned by name: the form's constant. -/
def laid_unicode_utf8_first : DataW Unit := Go.Pinned.utf8First

/-- 'trclaw22.DiffExact': WHATEVER THE INPUT: true; the input reads as it did. -/
def diffExactSpec : ChangeSpec := { name := "diffExact", fn := fun _ => fun
  | [d1, d2, d3] => { results := [.lit (.bool true)], args := [d1, d2, d3] }
  | _ => none }
def diffExactRow : OpenClaim := { program := "ytakbpdlfgjfbeaadoor", sum := "f61e0bd4bd4281d15b5046a5d9da4a7c5be5411b681cc615be35e6c1a1954477", func := "transclude/trclaw22.DiffExact", spec := "diffExact", inPlace := ["internal/bytealg.CountString", "internal/bytealg.IndexByteString", "internal/bytealg.IndexString"], named := ["unicode/utf8.first", "unicode/utf8.acceptRanges", "internal/bytealg.MaxLen"], apart := false, laid := [("unicode/utf8.acceptRanges", laid_unicode_utf8_acceptRanges), ("unicode/utf8.first", laid_unicode_utf8_first)] }
def DiffExactSaid : Prop := diffExactRow.holds Tryd.pinned (OpenSpec.ofChange diffExactSpec)

/-- ITS FALSE NEIGHBOUR: 'it returns false'. Refute it at one input. -/
def diffExactWrong : ChangeSpec := { name := "diffExact", fn := fun _ => fun
  | [d1, d2, d3] => { results := [.lit (.bool false)], args := [d1, d2, d3] }
  | _ => none }
def DiffExactWrongFalsely : Prop := diffExactRow.holds Tryd.pinned (OpenSpec.ofChange diffExactWrong)

/-- 'trclaw22.DiffShape': WHATEVER THE INPUT: true; the input reads as it did. -/
def diffShapeSpec : ChangeSpec := { name := "diffShape", fn := fun _ => fun
  | [d] => { results := [.lit (.bool true)], args := [d] }
  | _ => none }
def diffShapeRow : OpenClaim := { program := "ytakbpdlfgjfbeaadoor", sum := "f61e0bd4bd4281d15b5046a5d9da4a7c5be5411b681cc615be35e6c1a1954477", func := "transclude/trclaw22.DiffShape", spec := "diffShape", inPlace := ["internal/bytealg.CountString", "internal/bytealg.IndexByteString", "internal/bytealg.IndexString"], named := ["unicode/utf8.first", "unicode/utf8.acceptRanges", "internal/bytealg.MaxLen"], apart := false, laid := [("unicode/utf8.acceptRanges", laid_unicode_utf8_acceptRanges), ("unicode/utf8.first", laid_unicode_utf8_first)] }
def DiffShapeSaid : Prop := diffShapeRow.holds Tryd.pinned (OpenSpec.ofChange diffShapeSpec)

/-- ITS FALSE NEIGHBOUR: 'it returns false'. Refute it at one input. -/
def diffShapeWrong : ChangeSpec := { name := "diffShape", fn := fun _ => fun
  | [d] => { results := [.lit (.bool false)], args := [d] }
  | _ => none }
def DiffShapeWrongFalsely : Prop := diffShapeRow.holds Tryd.pinned (OpenSpec.ofChange diffShapeWrong)

/-- 'trclaw22.DiffCost': WHATEVER THE INPUT: true; the input reads as it did. -/
def diffCostSpec : ChangeSpec := { name := "diffCost", fn := fun _ => fun
  | [d1, d2] => { results := [.lit (.bool true)], args := [d1, d2] }
  | _ => none }
def diffCostRow : OpenClaim := { program := "ytakbpdlfgjfbeaadoor", sum := "f61e0bd4bd4281d15b5046a5d9da4a7c5be5411b681cc615be35e6c1a1954477", func := "transclude/trclaw22.DiffCost", spec := "diffCost", inPlace := ["internal/bytealg.CountString", "internal/bytealg.IndexByteString", "internal/bytealg.IndexString"], named := ["unicode/utf8.first", "unicode/utf8.acceptRanges", "internal/bytealg.MaxLen"], apart := false, laid := [("unicode/utf8.acceptRanges", laid_unicode_utf8_acceptRanges), ("unicode/utf8.first", laid_unicode_utf8_first)] }
def DiffCostSaid : Prop := diffCostRow.holds Tryd.pinned (OpenSpec.ofChange diffCostSpec)

/-- ITS FALSE NEIGHBOUR: 'it returns false'. Refute it at one input. -/
def diffCostWrong : ChangeSpec := { name := "diffCost", fn := fun _ => fun
  | [d1, d2] => { results := [.lit (.bool false)], args := [d1, d2] }
  | _ => none }
def DiffCostWrongFalsely : Prop := diffCostRow.holds Tryd.pinned (OpenSpec.ofChange diffCostWrong)

/-- 'trclaw22.DiffLines': WHATEVER THE INPUT: true; the input reads as it did. -/
def diffLinesSpec : ChangeSpec := { name := "diffLines", fn := fun _ => fun
  | [d] => { results := [.lit (.bool true)], args := [d] }
  | _ => none }
def diffLinesRow : OpenClaim := { program := "ytakbpdlfgjfbeaadoor", sum := "f61e0bd4bd4281d15b5046a5d9da4a7c5be5411b681cc615be35e6c1a1954477", func := "transclude/trclaw22.DiffLines", spec := "diffLines", inPlace := ["internal/bytealg.CountString", "internal/bytealg.IndexByteString", "internal/bytealg.IndexString", "internal/abi.NoEscape", "internal/bytealg.MakeNoZero"], named := ["unicode/utf8.first", "unicode/utf8.acceptRanges", "internal/bytealg.MaxLen"], apart := false, laid := [("unicode/utf8.acceptRanges", laid_unicode_utf8_acceptRanges), ("unicode/utf8.first", laid_unicode_utf8_first)] }
def DiffLinesSaid : Prop := diffLinesRow.holds Tryd.pinned (OpenSpec.ofChange diffLinesSpec)

/-- ITS FALSE NEIGHBOUR: 'it returns false'. Refute it at one input. -/
def diffLinesWrong : ChangeSpec := { name := "diffLines", fn := fun _ => fun
  | [d] => { results := [.lit (.bool false)], args := [d] }
  | _ => none }
def DiffLinesWrongFalsely : Prop := diffLinesRow.holds Tryd.pinned (OpenSpec.ofChange diffLinesWrong)

/-- 'trclaw22.DiffApplies': WHATEVER THE INPUT: true; the input reads as it did. -/
def diffAppliesSpec : ChangeSpec := { name := "diffApplies", fn := fun _ => fun
  | [d1, d2, d3] => { results := [.lit (.bool true)], args := [d1, d2, d3] }
  | _ => none }
def diffAppliesRow : OpenClaim := { program := "ytakbpdlfgjfbeaadoor", sum := "f61e0bd4bd4281d15b5046a5d9da4a7c5be5411b681cc615be35e6c1a1954477", func := "transclude/trclaw22.DiffApplies", spec := "diffApplies", inPlace := ["internal/bytealg.CountString", "internal/bytealg.IndexByteString", "internal/bytealg.IndexString", "internal/abi.NoEscape"], named := ["unicode/utf8.first", "unicode/utf8.acceptRanges", "internal/bytealg.MaxLen"], apart := false, laid := [("unicode/utf8.acceptRanges", laid_unicode_utf8_acceptRanges), ("unicode/utf8.first", laid_unicode_utf8_first)] }
def DiffAppliesSaid : Prop := diffAppliesRow.holds Tryd.pinned (OpenSpec.ofChange diffAppliesSpec)

/-- ITS FALSE NEIGHBOUR: 'it returns false'. Refute it at one input. -/
def diffAppliesWrong : ChangeSpec := { name := "diffApplies", fn := fun _ => fun
  | [d1, d2, d3] => { results := [.lit (.bool false)], args := [d1, d2, d3] }
  | _ => none }
def DiffAppliesWrongFalsely : Prop := diffAppliesRow.holds Tryd.pinned (OpenSpec.ofChange diffAppliesWrong)

/-- 'trclaw22.DiffEdits': WHATEVER THE INPUT: true; the input reads as it did. -/
def diffEditsSpec : ChangeSpec := { name := "diffEdits", fn := fun _ => fun
  | [d1, d2] => { results := [.lit (.bool true)], args := [d1, d2] }
  | _ => none }
def diffEditsRow : OpenClaim := { program := "ytakbpdlfgjfbeaadoor", sum := "f61e0bd4bd4281d15b5046a5d9da4a7c5be5411b681cc615be35e6c1a1954477", func := "transclude/trclaw22.DiffEdits", spec := "diffEdits", inPlace := ["internal/bytealg.CountString", "internal/bytealg.IndexByteString", "internal/bytealg.IndexString", "internal/abi.NoEscape"], named := ["unicode/utf8.first", "unicode/utf8.acceptRanges", "internal/bytealg.MaxLen"], apart := false, laid := [("unicode/utf8.acceptRanges", laid_unicode_utf8_acceptRanges), ("unicode/utf8.first", laid_unicode_utf8_first)] }
def DiffEditsSaid : Prop := diffEditsRow.holds Tryd.pinned (OpenSpec.ofChange diffEditsSpec)

/-- ITS FALSE NEIGHBOUR: 'it returns false'. Refute it at one input. -/
def diffEditsWrong : ChangeSpec := { name := "diffEdits", fn := fun _ => fun
  | [d1, d2] => { results := [.lit (.bool false)], args := [d1, d2] }
  | _ => none }
def DiffEditsWrongFalsely : Prop := diffEditsRow.holds Tryd.pinned (OpenSpec.ofChange diffEditsWrong)

/-- 'trclaw22.DiffMissing': WHATEVER THE INPUT: true; the input reads as it did. -/
def diffMissingSpec : ChangeSpec := { name := "diffMissing", fn := fun _ => fun
  | [d1, d2] => { results := [.lit (.bool true)], args := [d1, d2] }
  | _ => none }
def diffMissingRow : OpenClaim := { program := "ytakbpdlfgjfbeaadoor", sum := "f61e0bd4bd4281d15b5046a5d9da4a7c5be5411b681cc615be35e6c1a1954477", func := "transclude/trclaw22.DiffMissing", spec := "diffMissing", inPlace := ["internal/bytealg.CountString", "internal/bytealg.IndexByteString", "internal/bytealg.IndexString", "internal/abi.NoEscape", "internal/bytealg.MakeNoZero"], named := ["unicode/utf8.first", "unicode/utf8.acceptRanges", "internal/bytealg.MaxLen"], apart := false, laid := [("unicode/utf8.acceptRanges", laid_unicode_utf8_acceptRanges), ("unicode/utf8.first", laid_unicode_utf8_first)] }
def DiffMissingSaid : Prop := diffMissingRow.holds Tryd.pinned (OpenSpec.ofChange diffMissingSpec)

/-- ITS FALSE NEIGHBOUR: 'it returns false'. Refute it at one input. -/
def diffMissingWrong : ChangeSpec := { name := "diffMissing", fn := fun _ => fun
  | [d1, d2] => { results := [.lit (.bool false)], args := [d1, d2] }
  | _ => none }
def DiffMissingWrongFalsely : Prop := diffMissingRow.holds Tryd.pinned (OpenSpec.ofChange diffMissingWrong)

/-- 'trclaw22.DiffLimit': WHATEVER THE INPUT: true; the input reads as it did. -/
def diffLimitSpec : ChangeSpec := { name := "diffLimit", fn := fun _ => fun
  | [d] => { results := [.lit (.bool true)], args := [d] }
  | _ => none }
def diffLimitRow : OpenClaim := { program := "ytakbpdlfgjfbeaadoor", sum := "f61e0bd4bd4281d15b5046a5d9da4a7c5be5411b681cc615be35e6c1a1954477", func := "transclude/trclaw22.DiffLimit", spec := "diffLimit", inPlace := ["internal/abi.NoEscape", "internal/bytealg.MakeNoZero", "internal/bytealg.CountString", "internal/bytealg.IndexByteString", "internal/bytealg.IndexString"], named := ["unicode/utf8.first", "unicode/utf8.acceptRanges", "internal/bytealg.MaxLen"], apart := false, laid := [("unicode/utf8.acceptRanges", laid_unicode_utf8_acceptRanges), ("unicode/utf8.first", laid_unicode_utf8_first)] }
def DiffLimitSaid : Prop := diffLimitRow.holds Tryd.pinned (OpenSpec.ofChange diffLimitSpec)

/-- ITS FALSE NEIGHBOUR: 'it returns false'. Refute it at one input. -/
def diffLimitWrong : ChangeSpec := { name := "diffLimit", fn := fun _ => fun
  | [d] => { results := [.lit (.bool false)], args := [d] }
  | _ => none }
def DiffLimitWrongFalsely : Prop := diffLimitRow.holds Tryd.pinned (OpenSpec.ofChange diffLimitWrong)

/- THE SECOND FORM. 'bulk': how many values and letters a reading holds, each counted each time it is reached (what is shared counts as often as it is met; a slice's spare places count too). A statement '..UptoSaid' is the law's where the arguments, and the package variables that the reading takes, are together of bulk at most 1048576: NARROWER than '..Said'. Prove '..Said' where nothing that the law and all that it calls make is longer than what came in: it says more and counts as full. Else prove '..UptoSaid'. A law counts once. -/
mutual
def uptoBulk {H : Type} : DataW H → Nat
  | .lit (.string bytes) => bytes.length + 1
  | .lit _ => 1
  | .nil => 1
  | .ptr d => uptoBulk d + 1
  | .slice elems spare => uptoBulkAll elems + uptoBulkAll spare + 1
  | .agg parts => uptoBulkAll parts + 1
  | .iface _ d => uptoBulk d + 1
  | .map entries => uptoBulkEntries entries + 1
  | .held _ => 1
def uptoBulkAll {H : Type} : List (DataW H) → Nat
  | [] => 0
  | d :: r => uptoBulk d + uptoBulkAll r
def uptoBulkEntries {H : Type} : List (Lit × DataW H) → Nat
  | [] => 0
  | x :: r => uptoBulkEntry x + uptoBulkEntries r
def uptoBulkEntry {H : Type} : Lit × DataW H → Nat
  | (.string bytes, d) => bytes.length + uptoBulk d + 1
  | (_, d) => uptoBulk d + 1
 end
def uptoSmall : (H : Type) → List (DataW H) → Bool := fun _ ds => decide (uptoBulkAll ds ≤ 1048576)
def OpenSpec.upto (s : _root_.Go.ChangeSpec) : _root_.Go.OpenSpec := { _root_.Go.OpenSpec.ofChange s with cond := some uptoSmall }

/-- 'trclaw22.DiffExact', WHERE WHAT IT READS IS OF BULK AT MOST 1048576: true; the input reads as it did. -/
def diffExactUptoRow : OpenClaim := { program := "ytakbpdlfgjfbeaadoor", sum := "f61e0bd4bd4281d15b5046a5d9da4a7c5be5411b681cc615be35e6c1a1954477", func := "transclude/trclaw22.DiffExact", spec := "diffExact", inPlace := ["internal/bytealg.CountString", "internal/bytealg.IndexByteString", "internal/bytealg.IndexString"], named := ["unicode/utf8.first", "unicode/utf8.acceptRanges", "internal/bytealg.MaxLen"], apart := false, laid := [("unicode/utf8.acceptRanges", laid_unicode_utf8_acceptRanges), ("unicode/utf8.first", laid_unicode_utf8_first)], narrowed := true }
def DiffExactUptoSaid : Prop := diffExactUptoRow.holds Tryd.pinned (OpenSpec.upto diffExactSpec)

/-- 'trclaw22.DiffShape', WHERE WHAT IT READS IS OF BULK AT MOST 1048576: true; the input reads as it did. -/
def diffShapeUptoRow : OpenClaim := { program := "ytakbpdlfgjfbeaadoor", sum := "f61e0bd4bd4281d15b5046a5d9da4a7c5be5411b681cc615be35e6c1a1954477", func := "transclude/trclaw22.DiffShape", spec := "diffShape", inPlace := ["internal/bytealg.CountString", "internal/bytealg.IndexByteString", "internal/bytealg.IndexString"], named := ["unicode/utf8.first", "unicode/utf8.acceptRanges", "internal/bytealg.MaxLen"], apart := false, laid := [("unicode/utf8.acceptRanges", laid_unicode_utf8_acceptRanges), ("unicode/utf8.first", laid_unicode_utf8_first)], narrowed := true }
def DiffShapeUptoSaid : Prop := diffShapeUptoRow.holds Tryd.pinned (OpenSpec.upto diffShapeSpec)

/-- 'trclaw22.DiffCost', WHERE WHAT IT READS IS OF BULK AT MOST 1048576: true; the input reads as it did. -/
def diffCostUptoRow : OpenClaim := { program := "ytakbpdlfgjfbeaadoor", sum := "f61e0bd4bd4281d15b5046a5d9da4a7c5be5411b681cc615be35e6c1a1954477", func := "transclude/trclaw22.DiffCost", spec := "diffCost", inPlace := ["internal/bytealg.CountString", "internal/bytealg.IndexByteString", "internal/bytealg.IndexString"], named := ["unicode/utf8.first", "unicode/utf8.acceptRanges", "internal/bytealg.MaxLen"], apart := false, laid := [("unicode/utf8.acceptRanges", laid_unicode_utf8_acceptRanges), ("unicode/utf8.first", laid_unicode_utf8_first)], narrowed := true }
def DiffCostUptoSaid : Prop := diffCostUptoRow.holds Tryd.pinned (OpenSpec.upto diffCostSpec)

/-- 'trclaw22.DiffLines', WHERE WHAT IT READS IS OF BULK AT MOST 1048576: true; the input reads as it did. -/
def diffLinesUptoRow : OpenClaim := { program := "ytakbpdlfgjfbeaadoor", sum := "f61e0bd4bd4281d15b5046a5d9da4a7c5be5411b681cc615be35e6c1a1954477", func := "transclude/trclaw22.DiffLines", spec := "diffLines", inPlace := ["internal/bytealg.CountString", "internal/bytealg.IndexByteString", "internal/bytealg.IndexString", "internal/abi.NoEscape", "internal/bytealg.MakeNoZero"], named := ["unicode/utf8.first", "unicode/utf8.acceptRanges", "internal/bytealg.MaxLen"], apart := false, laid := [("unicode/utf8.acceptRanges", laid_unicode_utf8_acceptRanges), ("unicode/utf8.first", laid_unicode_utf8_first)], narrowed := true }
def DiffLinesUptoSaid : Prop := diffLinesUptoRow.holds Tryd.pinned (OpenSpec.upto diffLinesSpec)

/-- 'trclaw22.DiffApplies', WHERE WHAT IT READS IS OF BULK AT MOST 1048576: true; the input reads as it did. -/
def diffAppliesUptoRow : OpenClaim := { program := "ytakbpdlfgjfbeaadoor", sum := "f61e0bd4bd4281d15b5046a5d9da4a7c5be5411b681cc615be35e6c1a1954477", func := "transclude/trclaw22.DiffApplies", spec := "diffApplies", inPlace := ["internal/bytealg.CountString", "internal/bytealg.IndexByteString", "internal/bytealg.IndexString", "internal/abi.NoEscape"], named := ["unicode/utf8.first", "unicode/utf8.acceptRanges", "internal/bytealg.MaxLen"], apart := false, laid := [("unicode/utf8.acceptRanges", laid_unicode_utf8_acceptRanges), ("unicode/utf8.first", laid_unicode_utf8_first)], narrowed := true }
def DiffAppliesUptoSaid : Prop := diffAppliesUptoRow.holds Tryd.pinned (OpenSpec.upto diffAppliesSpec)

/-- 'trclaw22.DiffEdits', WHERE WHAT IT READS IS OF BULK AT MOST 1048576: true; the input reads as it did. -/
def diffEditsUptoRow : OpenClaim := { program := "ytakbpdlfgjfbeaadoor", sum := "f61e0bd4bd4281d15b5046a5d9da4a7c5be5411b681cc615be35e6c1a1954477", func := "transclude/trclaw22.DiffEdits", spec := "diffEdits", inPlace := ["internal/bytealg.CountString", "internal/bytealg.IndexByteString", "internal/bytealg.IndexString", "internal/abi.NoEscape"], named := ["unicode/utf8.first", "unicode/utf8.acceptRanges", "internal/bytealg.MaxLen"], apart := false, laid := [("unicode/utf8.acceptRanges", laid_unicode_utf8_acceptRanges), ("unicode/utf8.first", laid_unicode_utf8_first)], narrowed := true }
def DiffEditsUptoSaid : Prop := diffEditsUptoRow.holds Tryd.pinned (OpenSpec.upto diffEditsSpec)

/-- 'trclaw22.DiffMissing', WHERE WHAT IT READS IS OF BULK AT MOST 1048576: true; the input reads as it did. -/
def diffMissingUptoRow : OpenClaim := { program := "ytakbpdlfgjfbeaadoor", sum := "f61e0bd4bd4281d15b5046a5d9da4a7c5be5411b681cc615be35e6c1a1954477", func := "transclude/trclaw22.DiffMissing", spec := "diffMissing", inPlace := ["internal/bytealg.CountString", "internal/bytealg.IndexByteString", "internal/bytealg.IndexString", "internal/abi.NoEscape", "internal/bytealg.MakeNoZero"], named := ["unicode/utf8.first", "unicode/utf8.acceptRanges", "internal/bytealg.MaxLen"], apart := false, laid := [("unicode/utf8.acceptRanges", laid_unicode_utf8_acceptRanges), ("unicode/utf8.first", laid_unicode_utf8_first)], narrowed := true }
def DiffMissingUptoSaid : Prop := diffMissingUptoRow.holds Tryd.pinned (OpenSpec.upto diffMissingSpec)

/-- 'trclaw22.DiffLimit', WHERE WHAT IT READS IS OF BULK AT MOST 1048576: true; the input reads as it did. -/
def diffLimitUptoRow : OpenClaim := { program := "ytakbpdlfgjfbeaadoor", sum := "f61e0bd4bd4281d15b5046a5d9da4a7c5be5411b681cc615be35e6c1a1954477", func := "transclude/trclaw22.DiffLimit", spec := "diffLimit", inPlace := ["internal/abi.NoEscape", "internal/bytealg.MakeNoZero", "internal/bytealg.CountString", "internal/bytealg.IndexByteString", "internal/bytealg.IndexString"], named := ["unicode/utf8.first", "unicode/utf8.acceptRanges", "internal/bytealg.MaxLen"], apart := false, laid := [("unicode/utf8.acceptRanges", laid_unicode_utf8_acceptRanges), ("unicode/utf8.first", laid_unicode_utf8_first)], narrowed := true }
def DiffLimitUptoSaid : Prop := diffLimitUptoRow.holds Tryd.pinned (OpenSpec.upto diffLimitSpec)

end Rows
end Go.Proofs.YtakbpdlfgjfbeaaDoor
