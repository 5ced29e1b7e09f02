/-
  No cell of these rows narrows 'for every input' (looked for: loops, veiled, ifaces, maps, wideKeys, modest, calm, conditions, laid).
  DERIVED. THE GIVEN ROWS OF THIS SEAT. 10 by the template 'for every input the law returns true; each argument reads behind the call as it read before'; 0 by the template 'total and deterministic' (their statements: YtiggholdcebjjaaTotals.lean).
  GIVEN WITH THE SEED: the statements are not yours to turn. If you find one false, say at which input.
  Laid BY PROGRAM, IN A SANDBOX (cutbox-rows.mjs): the forced cells as the released guide's own fill.sh prints them over the translation 4c1fe62258dfb322… (all of the seat's roots in one cut). By AI agents, Wed Nov 11 2026. No macro, syntax, notation, axiom, sorry.
-/
import Derived.Test.YtiggholdcebjjaaChecked
import GoSem.Claim
import GoSem.ClaimJoined
import GoSem.ClaimMapViews
import Derived.JoinedTies
import Derived.KernelRfl
namespace Go.Proofs.Ytiggholdcebjjaa
/- THE CELL 'sum', in the pinned program and in every row, IS THE sha256 OF THE DUMP (.gsa) THAT YtiggholdcebjjaaProg.lean LOADS. Nothing in Lean hashes anything: it is a label: what it is worth is what the hold of that sum in a sandbox is worth. -/
noncomputable def Try.pinned : Pinned := { name := "ytiggholdcebjjaa", sum := "4c1fe62258dfb322368af886f66fe7aa47b5752d65be80d140b1fe3662384408", checked := Try.checked }
namespace Rows
def none {H : Type} : Left H := { results := [], args := [] }

/-- 'trclaw9.StringsSlice': WHATEVER THE INPUT: true; the input reads as it did. -/
def stringsSliceSpec : ChangeSpec := { name := "stringsSlice", fn := fun _ => fun
  | [d1, d2, d3] => { results := [.lit (.bool true)], args := [d1, d2, d3] }
  | _ => none }
def stringsSliceRow : OpenClaim := { program := "ytiggholdcebjjaa", sum := "4c1fe62258dfb322368af886f66fe7aa47b5752d65be80d140b1fe3662384408", func := "transclude/trclaw9.StringsSlice", spec := "stringsSlice", inPlace := ["internal/bytealg.IndexByteString", "internal/bytealg.IndexString"], named := ["internal/bytealg.MaxLen"], apart := false }
def StringsSliceSaid : Prop := stringsSliceRow.holds Try.pinned (OpenSpec.ofChange stringsSliceSpec)

/-- ITS FALSE NEIGHBOUR: 'it returns false'. Refute it at one input. -/
def stringsSliceWrong : ChangeSpec := { name := "stringsSlice", fn := fun _ => fun
  | [d1, d2, d3] => { results := [.lit (.bool false)], args := [d1, d2, d3] }
  | _ => none }
def StringsSliceWrongFalsely : Prop := stringsSliceRow.holds Try.pinned (OpenSpec.ofChange stringsSliceWrong)

/-- 'trclaw9.StringsDivide': WHATEVER THE INPUT: true; the input reads as it did. -/
def stringsDivideSpec : ChangeSpec := { name := "stringsDivide", fn := fun _ => fun
  | [d1, d2] => { results := [.lit (.bool true)], args := [d1, d2] }
  | _ => none }
def stringsDivideRow : OpenClaim := { program := "ytiggholdcebjjaa", sum := "4c1fe62258dfb322368af886f66fe7aa47b5752d65be80d140b1fe3662384408", func := "transclude/trclaw9.StringsDivide", spec := "stringsDivide", inPlace := ["internal/bytealg.IndexByteString", "internal/bytealg.IndexString"], named := ["internal/bytealg.MaxLen"], apart := false }
def StringsDivideSaid : Prop := stringsDivideRow.holds Try.pinned (OpenSpec.ofChange stringsDivideSpec)

/-- ITS FALSE NEIGHBOUR: 'it returns false'. Refute it at one input. -/
def stringsDivideWrong : ChangeSpec := { name := "stringsDivide", fn := fun _ => fun
  | [d1, d2] => { results := [.lit (.bool false)], args := [d1, d2] }
  | _ => none }
def StringsDivideWrongFalsely : Prop := stringsDivideRow.holds Try.pinned (OpenSpec.ofChange stringsDivideWrong)

/-- 'trclaw9.StringsFind': WHATEVER THE INPUT: true; the input reads as it did. -/
def stringsFindSpec : ChangeSpec := { name := "stringsFind", fn := fun _ => fun
  | [d1, d2, d3] => { results := [.lit (.bool true)], args := [d1, d2, d3] }
  | _ => none }
def stringsFindRow : OpenClaim := { program := "ytiggholdcebjjaa", sum := "4c1fe62258dfb322368af886f66fe7aa47b5752d65be80d140b1fe3662384408", func := "transclude/trclaw9.StringsFind", spec := "stringsFind", inPlace := ["internal/bytealg.IndexByteString", "internal/bytealg.IndexString"], named := ["internal/bytealg.MaxLen"], apart := false }
def StringsFindSaid : Prop := stringsFindRow.holds Try.pinned (OpenSpec.ofChange stringsFindSpec)

/-- ITS FALSE NEIGHBOUR: 'it returns false'. Refute it at one input. -/
def stringsFindWrong : ChangeSpec := { name := "stringsFind", fn := fun _ => fun
  | [d1, d2, d3] => { results := [.lit (.bool false)], args := [d1, d2, d3] }
  | _ => none }
def StringsFindWrongFalsely : Prop := stringsFindRow.holds Try.pinned (OpenSpec.ofChange stringsFindWrong)

/-- 'trclaw9.StringsWithin': WHATEVER THE INPUT: true; the input reads as it did. -/
def stringsWithinSpec : ChangeSpec := { name := "stringsWithin", fn := fun _ => fun
  | [d1, d2, d3] => { results := [.lit (.bool true)], args := [d1, d2, d3] }
  | _ => none }
def stringsWithinRow : OpenClaim := { program := "ytiggholdcebjjaa", sum := "4c1fe62258dfb322368af886f66fe7aa47b5752d65be80d140b1fe3662384408", func := "transclude/trclaw9.StringsWithin", spec := "stringsWithin", inPlace := ["internal/bytealg.IndexByteString", "internal/bytealg.IndexString"], named := ["internal/bytealg.MaxLen"], apart := false }
def StringsWithinSaid : Prop := stringsWithinRow.holds Try.pinned (OpenSpec.ofChange stringsWithinSpec)

/-- ITS FALSE NEIGHBOUR: 'it returns false'. Refute it at one input. -/
def stringsWithinWrong : ChangeSpec := { name := "stringsWithin", fn := fun _ => fun
  | [d1, d2, d3] => { results := [.lit (.bool false)], args := [d1, d2, d3] }
  | _ => none }
def StringsWithinWrongFalsely : Prop := stringsWithinRow.holds Try.pinned (OpenSpec.ofChange stringsWithinWrong)

/-- 'trclaw9.StringsPart': WHATEVER THE INPUT: true; the input reads as it did. -/
def stringsPartSpec : ChangeSpec := { name := "stringsPart", fn := fun _ => fun
  | [d1, d2, d3] => { results := [.lit (.bool true)], args := [d1, d2, d3] }
  | _ => none }
def stringsPartRow : OpenClaim := { program := "ytiggholdcebjjaa", sum := "4c1fe62258dfb322368af886f66fe7aa47b5752d65be80d140b1fe3662384408", func := "transclude/trclaw9.StringsPart", spec := "stringsPart", inPlace := ["internal/bytealg.IndexByteString", "internal/bytealg.IndexString"], named := ["internal/bytealg.MaxLen"], apart := false }
def StringsPartSaid : Prop := stringsPartRow.holds Try.pinned (OpenSpec.ofChange stringsPartSpec)

/-- ITS FALSE NEIGHBOUR: 'it returns false'. Refute it at one input. -/
def stringsPartWrong : ChangeSpec := { name := "stringsPart", fn := fun _ => fun
  | [d1, d2, d3] => { results := [.lit (.bool false)], args := [d1, d2, d3] }
  | _ => none }
def StringsPartWrongFalsely : Prop := stringsPartRow.holds Try.pinned (OpenSpec.ofChange stringsPartWrong)

/-- 'trclaw9.StringsParts': WHATEVER THE INPUT: true; the input reads as it did. -/
def stringsPartsSpec : ChangeSpec := { name := "stringsParts", fn := fun _ => fun
  | [d1, d2] => { results := [.lit (.bool true)], args := [d1, d2] }
  | _ => none }
def stringsPartsRow : OpenClaim := { program := "ytiggholdcebjjaa", sum := "4c1fe62258dfb322368af886f66fe7aa47b5752d65be80d140b1fe3662384408", func := "transclude/trclaw9.StringsParts", spec := "stringsParts", inPlace := ["internal/bytealg.IndexByteString", "internal/bytealg.IndexString"], named := ["internal/bytealg.MaxLen"], apart := false }
def StringsPartsSaid : Prop := stringsPartsRow.holds Try.pinned (OpenSpec.ofChange stringsPartsSpec)

/-- ITS FALSE NEIGHBOUR: 'it returns false'. Refute it at one input. -/
def stringsPartsWrong : ChangeSpec := { name := "stringsParts", fn := fun _ => fun
  | [d1, d2] => { results := [.lit (.bool false)], args := [d1, d2] }
  | _ => none }
def StringsPartsWrongFalsely : Prop := stringsPartsRow.holds Try.pinned (OpenSpec.ofChange stringsPartsWrong)

/-- 'trclaw9.StringsReplace': WHATEVER THE INPUT: true; the input reads as it did. -/
def stringsReplaceSpec : ChangeSpec := { name := "stringsReplace", fn := fun _ => fun
  | [d1, d2, d3, d4] => { results := [.lit (.bool true)], args := [d1, d2, d3, d4] }
  | _ => none }
def stringsReplaceRow : OpenClaim := { program := "ytiggholdcebjjaa", sum := "4c1fe62258dfb322368af886f66fe7aa47b5752d65be80d140b1fe3662384408", func := "transclude/trclaw9.StringsReplace", spec := "stringsReplace", inPlace := ["internal/bytealg.IndexByteString", "internal/bytealg.IndexString", "internal/abi.NoEscape"], named := ["internal/bytealg.MaxLen"], apart := false }
def StringsReplaceSaid : Prop := stringsReplaceRow.holds Try.pinned (OpenSpec.ofChange stringsReplaceSpec)

/-- ITS FALSE NEIGHBOUR: 'it returns false'. Refute it at one input. -/
def stringsReplaceWrong : ChangeSpec := { name := "stringsReplace", fn := fun _ => fun
  | [d1, d2, d3, d4] => { results := [.lit (.bool false)], args := [d1, d2, d3, d4] }
  | _ => none }
def StringsReplaceWrongFalsely : Prop := stringsReplaceRow.holds Try.pinned (OpenSpec.ofChange stringsReplaceWrong)

/-- 'trclaw9.StringsReplaced': WHATEVER THE INPUT: true; the input reads as it did. -/
def stringsReplacedSpec : ChangeSpec := { name := "stringsReplaced", fn := fun _ => fun
  | [d1, d2, d3] => { results := [.lit (.bool true)], args := [d1, d2, d3] }
  | _ => none }
def stringsReplacedRow : OpenClaim := { program := "ytiggholdcebjjaa", sum := "4c1fe62258dfb322368af886f66fe7aa47b5752d65be80d140b1fe3662384408", func := "transclude/trclaw9.StringsReplaced", spec := "stringsReplaced", inPlace := ["internal/bytealg.IndexByteString", "internal/bytealg.IndexString", "internal/abi.NoEscape"], named := ["internal/bytealg.MaxLen"], apart := false }
def StringsReplacedSaid : Prop := stringsReplacedRow.holds Try.pinned (OpenSpec.ofChange stringsReplacedSpec)

/-- ITS FALSE NEIGHBOUR: 'it returns false'. Refute it at one input. -/
def stringsReplacedWrong : ChangeSpec := { name := "stringsReplaced", fn := fun _ => fun
  | [d1, d2, d3] => { results := [.lit (.bool false)], args := [d1, d2, d3] }
  | _ => none }
def StringsReplacedWrongFalsely : Prop := stringsReplacedRow.holds Try.pinned (OpenSpec.ofChange stringsReplacedWrong)

/-- 'trclaw9.StringsPad': WHATEVER THE INPUT: true; the input reads as it did. -/
def stringsPadSpec : ChangeSpec := { name := "stringsPad", fn := fun _ => fun
  | [d1, d2, d3] => { results := [.lit (.bool true)], args := [d1, d2, d3] }
  | _ => none }
def stringsPadRow : OpenClaim := { program := "ytiggholdcebjjaa", sum := "4c1fe62258dfb322368af886f66fe7aa47b5752d65be80d140b1fe3662384408", func := "transclude/trclaw9.StringsPad", spec := "stringsPad", inPlace := ["internal/bytealg.IndexByteString", "internal/bytealg.IndexString", "internal/abi.NoEscape", "internal/bytealg.MakeNoZero"], named := ["internal/bytealg.MaxLen"], apart := false }
def StringsPadSaid : Prop := stringsPadRow.holds Try.pinned (OpenSpec.ofChange stringsPadSpec)

/-- ITS FALSE NEIGHBOUR: 'it returns false'. Refute it at one input. -/
def stringsPadWrong : ChangeSpec := { name := "stringsPad", fn := fun _ => fun
  | [d1, d2, d3] => { results := [.lit (.bool false)], args := [d1, d2, d3] }
  | _ => none }
def StringsPadWrongFalsely : Prop := stringsPadRow.holds Try.pinned (OpenSpec.ofChange stringsPadWrong)

/-- 'trclaw9.StringsPadded': WHATEVER THE INPUT: true; the input reads as it did. -/
def stringsPaddedSpec : ChangeSpec := { name := "stringsPadded", fn := fun _ => fun
  | [d1, d2, d3] => { results := [.lit (.bool true)], args := [d1, d2, d3] }
  | _ => none }
def stringsPaddedRow : OpenClaim := { program := "ytiggholdcebjjaa", sum := "4c1fe62258dfb322368af886f66fe7aa47b5752d65be80d140b1fe3662384408", func := "transclude/trclaw9.StringsPadded", spec := "stringsPadded", inPlace := ["internal/bytealg.IndexByteString", "internal/bytealg.IndexString", "internal/abi.NoEscape", "internal/bytealg.MakeNoZero"], named := ["internal/bytealg.MaxLen"], apart := false }
def StringsPaddedSaid : Prop := stringsPaddedRow.holds Try.pinned (OpenSpec.ofChange stringsPaddedSpec)

/-- ITS FALSE NEIGHBOUR: 'it returns false'. Refute it at one input. -/
def stringsPaddedWrong : ChangeSpec := { name := "stringsPadded", fn := fun _ => fun
  | [d1, d2, d3] => { results := [.lit (.bool false)], args := [d1, d2, d3] }
  | _ => none }
def StringsPaddedWrongFalsely : Prop := stringsPaddedRow.holds Try.pinned (OpenSpec.ofChange stringsPaddedWrong)

/- THE SECOND FORM. 'bulk': how many values and letters a reading holds, each counted each time it is reached (what is shared counts as often as it is met; a slice's spare places count too). A statement '..UptoSaid' is the law's where the arguments, and the package variables that the reading takes, are together of bulk at most 1048576: NARROWER than '..Said'. Prove '..Said' where nothing that the law and all that it calls make is longer than what came in: it says more and counts as full. Else prove '..UptoSaid'. A law counts once. -/
mutual
def uptoBulk {H : Type} : DataW H → Nat
  | .lit (.string bytes) => bytes.length + 1
  | .lit _ => 1
  | .nil => 1
  | .ptr d => uptoBulk d + 1
  | .slice elems spare => uptoBulkAll elems + uptoBulkAll spare + 1
  | .agg parts => uptoBulkAll parts + 1
  | .iface _ d => uptoBulk d + 1
  | .map entries => uptoBulkEntries entries + 1
  | .held _ => 1
def uptoBulkAll {H : Type} : List (DataW H) → Nat
  | [] => 0
  | d :: r => uptoBulk d + uptoBulkAll r
def uptoBulkEntries {H : Type} : List (Lit × DataW H) → Nat
  | [] => 0
  | x :: r => uptoBulkEntry x + uptoBulkEntries r
def uptoBulkEntry {H : Type} : Lit × DataW H → Nat
  | (.string bytes, d) => bytes.length + uptoBulk d + 1
  | (_, d) => uptoBulk d + 1
 end
def uptoSmall : (H : Type) → List (DataW H) → Bool := fun _ ds => decide (uptoBulkAll ds ≤ 1048576)
def OpenSpec.upto (s : _root_.Go.ChangeSpec) : _root_.Go.OpenSpec := { _root_.Go.OpenSpec.ofChange s with cond := some uptoSmall }

/-- 'trclaw9.StringsSlice', WHERE WHAT IT READS IS OF BULK AT MOST 1048576: true; the input reads as it did. -/
def stringsSliceUptoRow : OpenClaim := { program := "ytiggholdcebjjaa", sum := "4c1fe62258dfb322368af886f66fe7aa47b5752d65be80d140b1fe3662384408", func := "transclude/trclaw9.StringsSlice", spec := "stringsSlice", inPlace := ["internal/bytealg.IndexByteString", "internal/bytealg.IndexString"], named := ["internal/bytealg.MaxLen"], apart := false, narrowed := true }
def StringsSliceUptoSaid : Prop := stringsSliceUptoRow.holds Try.pinned (OpenSpec.upto stringsSliceSpec)

/-- 'trclaw9.StringsDivide', WHERE WHAT IT READS IS OF BULK AT MOST 1048576: true; the input reads as it did. -/
def stringsDivideUptoRow : OpenClaim := { program := "ytiggholdcebjjaa", sum := "4c1fe62258dfb322368af886f66fe7aa47b5752d65be80d140b1fe3662384408", func := "transclude/trclaw9.StringsDivide", spec := "stringsDivide", inPlace := ["internal/bytealg.IndexByteString", "internal/bytealg.IndexString"], named := ["internal/bytealg.MaxLen"], apart := false, narrowed := true }
def StringsDivideUptoSaid : Prop := stringsDivideUptoRow.holds Try.pinned (OpenSpec.upto stringsDivideSpec)

/-- 'trclaw9.StringsFind', WHERE WHAT IT READS IS OF BULK AT MOST 1048576: true; the input reads as it did. -/
def stringsFindUptoRow : OpenClaim := { program := "ytiggholdcebjjaa", sum := "4c1fe62258dfb322368af886f66fe7aa47b5752d65be80d140b1fe3662384408", func := "transclude/trclaw9.StringsFind", spec := "stringsFind", inPlace := ["internal/bytealg.IndexByteString", "internal/bytealg.IndexString"], named := ["internal/bytealg.MaxLen"], apart := false, narrowed := true }
def StringsFindUptoSaid : Prop := stringsFindUptoRow.holds Try.pinned (OpenSpec.upto stringsFindSpec)

/-- 'trclaw9.StringsWithin', WHERE WHAT IT READS IS OF BULK AT MOST 1048576: true; the input reads as it did. -/
def stringsWithinUptoRow : OpenClaim := { program := "ytiggholdcebjjaa", sum := "4c1fe62258dfb322368af886f66fe7aa47b5752d65be80d140b1fe3662384408", func := "transclude/trclaw9.StringsWithin", spec := "stringsWithin", inPlace := ["internal/bytealg.IndexByteString", "internal/bytealg.IndexString"], named := ["internal/bytealg.MaxLen"], apart := false, narrowed := true }
def StringsWithinUptoSaid : Prop := stringsWithinUptoRow.holds Try.pinned (OpenSpec.upto stringsWithinSpec)

/-- 'trclaw9.StringsPart', WHERE WHAT IT READS IS OF BULK AT MOST 1048576: true; the input reads as it did. -/
def stringsPartUptoRow : OpenClaim := { program := "ytiggholdcebjjaa", sum := "4c1fe62258dfb322368af886f66fe7aa47b5752d65be80d140b1fe3662384408", func := "transclude/trclaw9.StringsPart", spec := "stringsPart", inPlace := ["internal/bytealg.IndexByteString", "internal/bytealg.IndexString"], named := ["internal/bytealg.MaxLen"], apart := false, narrowed := true }
def StringsPartUptoSaid : Prop := stringsPartUptoRow.holds Try.pinned (OpenSpec.upto stringsPartSpec)

/-- 'trclaw9.StringsParts', WHERE WHAT IT READS IS OF BULK AT MOST 1048576: true; the input reads as it did. -/
def stringsPartsUptoRow : OpenClaim := { program := "ytiggholdcebjjaa", sum := "4c1fe62258dfb322368af886f66fe7aa47b5752d65be80d140b1fe3662384408", func := "transclude/trclaw9.StringsParts", spec := "stringsParts", inPlace := ["internal/bytealg.IndexByteString", "internal/bytealg.IndexString"], named := ["internal/bytealg.MaxLen"], apart := false, narrowed := true }
def StringsPartsUptoSaid : Prop := stringsPartsUptoRow.holds Try.pinned (OpenSpec.upto stringsPartsSpec)

/-- 'trclaw9.StringsReplace', WHERE WHAT IT READS IS OF BULK AT MOST 1048576: true; the input reads as it did. -/
def stringsReplaceUptoRow : OpenClaim := { program := "ytiggholdcebjjaa", sum := "4c1fe62258dfb322368af886f66fe7aa47b5752d65be80d140b1fe3662384408", func := "transclude/trclaw9.StringsReplace", spec := "stringsReplace", inPlace := ["internal/bytealg.IndexByteString", "internal/bytealg.IndexString", "internal/abi.NoEscape"], named := ["internal/bytealg.MaxLen"], apart := false, narrowed := true }
def StringsReplaceUptoSaid : Prop := stringsReplaceUptoRow.holds Try.pinned (OpenSpec.upto stringsReplaceSpec)

/-- 'trclaw9.StringsReplaced', WHERE WHAT IT READS IS OF BULK AT MOST 1048576: true; the input reads as it did. -/
def stringsReplacedUptoRow : OpenClaim := { program := "ytiggholdcebjjaa", sum := "4c1fe62258dfb322368af886f66fe7aa47b5752d65be80d140b1fe3662384408", func := "transclude/trclaw9.StringsReplaced", spec := "stringsReplaced", inPlace := ["internal/bytealg.IndexByteString", "internal/bytealg.IndexString", "internal/abi.NoEscape"], named := ["internal/bytealg.MaxLen"], apart := false, narrowed := true }
def StringsReplacedUptoSaid : Prop := stringsReplacedUptoRow.holds Try.pinned (OpenSpec.upto stringsReplacedSpec)

/-- 'trclaw9.StringsPad', WHERE WHAT IT READS IS OF BULK AT MOST 1048576: true; the input reads as it did. -/
def stringsPadUptoRow : OpenClaim := { program := "ytiggholdcebjjaa", sum := "4c1fe62258dfb322368af886f66fe7aa47b5752d65be80d140b1fe3662384408", func := "transclude/trclaw9.StringsPad", spec := "stringsPad", inPlace := ["internal/bytealg.IndexByteString", "internal/bytealg.IndexString", "internal/abi.NoEscape", "internal/bytealg.MakeNoZero"], named := ["internal/bytealg.MaxLen"], apart := false, narrowed := true }
def StringsPadUptoSaid : Prop := stringsPadUptoRow.holds Try.pinned (OpenSpec.upto stringsPadSpec)

/-- 'trclaw9.StringsPadded', WHERE WHAT IT READS IS OF BULK AT MOST 1048576: true; the input reads as it did. -/
def stringsPaddedUptoRow : OpenClaim := { program := "ytiggholdcebjjaa", sum := "4c1fe62258dfb322368af886f66fe7aa47b5752d65be80d140b1fe3662384408", func := "transclude/trclaw9.StringsPadded", spec := "stringsPadded", inPlace := ["internal/bytealg.IndexByteString", "internal/bytealg.IndexString", "internal/abi.NoEscape", "internal/bytealg.MakeNoZero"], named := ["internal/bytealg.MaxLen"], apart := false, narrowed := true }
def StringsPaddedUptoSaid : Prop := stringsPaddedUptoRow.holds Try.pinned (OpenSpec.upto stringsPaddedSpec)

end Rows
end Go.Proofs.Ytiggholdcebjjaa
