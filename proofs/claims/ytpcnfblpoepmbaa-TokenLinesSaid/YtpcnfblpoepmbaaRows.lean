/-
  No cell of these rows narrows 'for every input' (looked for: loops, veiled, ifaces, maps, wideKeys, modest, calm, conditions, laid).
  DERIVED. THE GIVEN ROWS OF THIS SEAT. 6 by the template 'for every input the law returns true; each argument reads behind the call as it read before'; 0 by the template 'total and deterministic' (their statements: YtpcnfblpoepmbaaTotals.lean).
  GIVEN WITH THE SEED: the statements are not yours to turn. If you find one false, say at which input.
  Laid BY PROGRAM, IN A SANDBOX (cutbox-rows.mjs): the forced cells as the released guide's own fill.sh prints them over the translation b553ecdd5478789b… (all of the seat's roots in one cut). By AI agents, Wed Nov 11 2026. No macro, syntax, notation, axiom, sorry.
-/
import Derived.Test.YtpcnfblpoepmbaaChecked
import GoSem.Claim
import GoSem.ClaimJoined
import GoSem.ClaimMapViews
import Derived.JoinedTies
import Derived.KernelRfl
namespace Go.Proofs.Ytpcnfblpoepmbaa
/- THE CELL 'sum', in the pinned program and in every row, IS THE sha256 OF THE DUMP (.gsa) THAT YtpcnfblpoepmbaaProg.lean LOADS. Nothing in Lean hashes anything: it is a label: what it is worth is what the hold of that sum in a sandbox is worth. -/
noncomputable def Try.pinned : Pinned := { name := "ytpcnfblpoepmbaa", sum := "b553ecdd5478789bd522358c7fdf2860a5290b2b18cf75c58d043b57a0ca1c09", checked := Try.checked }
namespace Rows
def none {H : Type} : Left H := { results := [], args := [] }

/-- 'trclaw2.TokenScan': WHATEVER THE INPUT: true; the input reads as it did. -/
def tokenScanSpec : ChangeSpec := { name := "tokenScan", fn := fun _ => fun
  | [d] => { results := [.lit (.bool true)], args := [d] }
  | _ => none }
def tokenScanRow : OpenClaim := { program := "ytpcnfblpoepmbaa", sum := "b553ecdd5478789bd522358c7fdf2860a5290b2b18cf75c58d043b57a0ca1c09", func := "transclude/trclaw2.TokenScan", spec := "tokenScan", inPlace := ["internal/bytealg.IndexByteString", "internal/bytealg.IndexString"], named := ["internal/bytealg.MaxLen"], apart := false }
def TokenScanSaid : Prop := tokenScanRow.holds Try.pinned (OpenSpec.ofChange tokenScanSpec)

/-- ITS FALSE NEIGHBOUR: 'it returns false'. Refute it at one input. -/
def tokenScanWrong : ChangeSpec := { name := "tokenScan", fn := fun _ => fun
  | [d] => { results := [.lit (.bool false)], args := [d] }
  | _ => none }
def TokenScanWrongFalsely : Prop := tokenScanRow.holds Try.pinned (OpenSpec.ofChange tokenScanWrong)

/-- 'trclaw2.TokenLines': WHATEVER THE INPUT: true; the input reads as it did. -/
def tokenLinesSpec : ChangeSpec := { name := "tokenLines", fn := fun _ => fun
  | [d1, d2] => { results := [.lit (.bool true)], args := [d1, d2] }
  | _ => none }
def tokenLinesRow : OpenClaim := { program := "ytpcnfblpoepmbaa", sum := "b553ecdd5478789bd522358c7fdf2860a5290b2b18cf75c58d043b57a0ca1c09", func := "transclude/trclaw2.TokenLines", spec := "tokenLines", inPlace := ["internal/bytealg.IndexByteString", "internal/bytealg.IndexString"], named := ["internal/bytealg.MaxLen"], apart := false }
def TokenLinesSaid : Prop := tokenLinesRow.holds Try.pinned (OpenSpec.ofChange tokenLinesSpec)

/-- ITS FALSE NEIGHBOUR: 'it returns false'. Refute it at one input. -/
def tokenLinesWrong : ChangeSpec := { name := "tokenLines", fn := fun _ => fun
  | [d1, d2] => { results := [.lit (.bool false)], args := [d1, d2] }
  | _ => none }
def TokenLinesWrongFalsely : Prop := tokenLinesRow.holds Try.pinned (OpenSpec.ofChange tokenLinesWrong)

/-- 'trclaw2.TokenCovers': WHATEVER THE INPUT: true; the input reads as it did. -/
def tokenCoversSpec : ChangeSpec := { name := "tokenCovers", fn := fun _ => fun
  | [d] => { results := [.lit (.bool true)], args := [d] }
  | _ => none }
def tokenCoversRow : OpenClaim := { program := "ytpcnfblpoepmbaa", sum := "b553ecdd5478789bd522358c7fdf2860a5290b2b18cf75c58d043b57a0ca1c09", func := "transclude/trclaw2.TokenCovers", spec := "tokenCovers", inPlace := ["internal/bytealg.IndexByteString", "internal/bytealg.IndexString"], named := ["internal/bytealg.MaxLen"], apart := false }
def TokenCoversSaid : Prop := tokenCoversRow.holds Try.pinned (OpenSpec.ofChange tokenCoversSpec)

/-- ITS FALSE NEIGHBOUR: 'it returns false'. Refute it at one input. -/
def tokenCoversWrong : ChangeSpec := { name := "tokenCovers", fn := fun _ => fun
  | [d] => { results := [.lit (.bool false)], args := [d] }
  | _ => none }
def TokenCoversWrongFalsely : Prop := tokenCoversRow.holds Try.pinned (OpenSpec.ofChange tokenCoversWrong)

/-- 'trclaw2.TokenAlone': WHATEVER THE INPUT: true; the input reads as it did. -/
def tokenAloneSpec : ChangeSpec := { name := "tokenAlone", fn := fun _ => fun
  | [d] => { results := [.lit (.bool true)], args := [d] }
  | _ => none }
def tokenAloneRow : OpenClaim := { program := "ytpcnfblpoepmbaa", sum := "b553ecdd5478789bd522358c7fdf2860a5290b2b18cf75c58d043b57a0ca1c09", func := "transclude/trclaw2.TokenAlone", spec := "tokenAlone", inPlace := ["internal/bytealg.IndexByteString", "internal/bytealg.IndexString"], named := ["internal/bytealg.MaxLen"], apart := false }
def TokenAloneSaid : Prop := tokenAloneRow.holds Try.pinned (OpenSpec.ofChange tokenAloneSpec)

/-- ITS FALSE NEIGHBOUR: 'it returns false'. Refute it at one input. -/
def tokenAloneWrong : ChangeSpec := { name := "tokenAlone", fn := fun _ => fun
  | [d] => { results := [.lit (.bool false)], args := [d] }
  | _ => none }
def TokenAloneWrongFalsely : Prop := tokenAloneRow.holds Try.pinned (OpenSpec.ofChange tokenAloneWrong)

/-- 'trclaw2.TokenText': WHATEVER THE INPUT: true; the input reads as it did. -/
def tokenTextSpec : ChangeSpec := { name := "tokenText", fn := fun _ => fun
  | [d1, d2, d3] => { results := [.lit (.bool true)], args := [d1, d2, d3] }
  | _ => none }
def tokenTextRow : OpenClaim := { program := "ytpcnfblpoepmbaa", sum := "b553ecdd5478789bd522358c7fdf2860a5290b2b18cf75c58d043b57a0ca1c09", func := "transclude/trclaw2.TokenText", spec := "tokenText", inPlace := ["internal/bytealg.IndexByteString", "internal/bytealg.IndexString"], named := ["internal/bytealg.MaxLen"], apart := false }
def TokenTextSaid : Prop := tokenTextRow.holds Try.pinned (OpenSpec.ofChange tokenTextSpec)

/-- ITS FALSE NEIGHBOUR: 'it returns false'. Refute it at one input. -/
def tokenTextWrong : ChangeSpec := { name := "tokenText", fn := fun _ => fun
  | [d1, d2, d3] => { results := [.lit (.bool false)], args := [d1, d2, d3] }
  | _ => none }
def TokenTextWrongFalsely : Prop := tokenTextRow.holds Try.pinned (OpenSpec.ofChange tokenTextWrong)

/-- 'trclaw2.TokenLimit': WHATEVER THE INPUT: true; the input reads as it did. -/
def tokenLimitSpec : ChangeSpec := { name := "tokenLimit", fn := fun _ => fun
  | [d] => { results := [.lit (.bool true)], args := [d] }
  | _ => none }
def tokenLimitRow : OpenClaim := { program := "ytpcnfblpoepmbaa", sum := "b553ecdd5478789bd522358c7fdf2860a5290b2b18cf75c58d043b57a0ca1c09", func := "transclude/trclaw2.TokenLimit", spec := "tokenLimit", inPlace := ["internal/abi.NoEscape", "internal/bytealg.MakeNoZero", "internal/bytealg.IndexByteString", "internal/bytealg.IndexString"], named := ["internal/bytealg.MaxLen"], apart := false }
def TokenLimitSaid : Prop := tokenLimitRow.holds Try.pinned (OpenSpec.ofChange tokenLimitSpec)

/-- ITS FALSE NEIGHBOUR: 'it returns false'. Refute it at one input. -/
def tokenLimitWrong : ChangeSpec := { name := "tokenLimit", fn := fun _ => fun
  | [d] => { results := [.lit (.bool false)], args := [d] }
  | _ => none }
def TokenLimitWrongFalsely : Prop := tokenLimitRow.holds Try.pinned (OpenSpec.ofChange tokenLimitWrong)

/- THE SECOND FORM. 'bulk': how many values and letters a reading holds, each counted each time it is reached (what is shared counts as often as it is met; a slice's spare places count too). A statement '..UptoSaid' is the law's where the arguments, and the package variables that the reading takes, are together of bulk at most 1048576: NARROWER than '..Said'. Prove '..Said' where nothing that the law and all that it calls make is longer than what came in: it says more and counts as full. Else prove '..UptoSaid'. A law counts once. -/
mutual
def uptoBulk {H : Type} : DataW H → Nat
  | .lit (.string bytes) => bytes.length + 1
  | .lit _ => 1
  | .nil => 1
  | .ptr d => uptoBulk d + 1
  | .slice elems spare => uptoBulkAll elems + uptoBulkAll spare + 1
  | .agg parts => uptoBulkAll parts + 1
  | .iface _ d => uptoBulk d + 1
  | .map entries => uptoBulkEntries entries + 1
  | .held _ => 1
def uptoBulkAll {H : Type} : List (DataW H) → Nat
  | [] => 0
  | d :: r => uptoBulk d + uptoBulkAll r
def uptoBulkEntries {H : Type} : List (Lit × DataW H) → Nat
  | [] => 0
  | x :: r => uptoBulkEntry x + uptoBulkEntries r
def uptoBulkEntry {H : Type} : Lit × DataW H → Nat
  | (.string bytes, d) => bytes.length + uptoBulk d + 1
  | (_, d) => uptoBulk d + 1
 end
def uptoSmall : (H : Type) → List (DataW H) → Bool := fun _ ds => decide (uptoBulkAll ds ≤ 1048576)
def OpenSpec.upto (s : _root_.Go.ChangeSpec) : _root_.Go.OpenSpec := { _root_.Go.OpenSpec.ofChange s with cond := some uptoSmall }

/-- 'trclaw2.TokenScan', WHERE WHAT IT READS IS OF BULK AT MOST 1048576: true; the input reads as it did. -/
def tokenScanUptoRow : OpenClaim := { program := "ytpcnfblpoepmbaa", sum := "b553ecdd5478789bd522358c7fdf2860a5290b2b18cf75c58d043b57a0ca1c09", func := "transclude/trclaw2.TokenScan", spec := "tokenScan", inPlace := ["internal/bytealg.IndexByteString", "internal/bytealg.IndexString"], named := ["internal/bytealg.MaxLen"], apart := false, narrowed := true }
def TokenScanUptoSaid : Prop := tokenScanUptoRow.holds Try.pinned (OpenSpec.upto tokenScanSpec)

/-- 'trclaw2.TokenLines', WHERE WHAT IT READS IS OF BULK AT MOST 1048576: true; the input reads as it did. -/
def tokenLinesUptoRow : OpenClaim := { program := "ytpcnfblpoepmbaa", sum := "b553ecdd5478789bd522358c7fdf2860a5290b2b18cf75c58d043b57a0ca1c09", func := "transclude/trclaw2.TokenLines", spec := "tokenLines", inPlace := ["internal/bytealg.IndexByteString", "internal/bytealg.IndexString"], named := ["internal/bytealg.MaxLen"], apart := false, narrowed := true }
def TokenLinesUptoSaid : Prop := tokenLinesUptoRow.holds Try.pinned (OpenSpec.upto tokenLinesSpec)

/-- 'trclaw2.TokenCovers', WHERE WHAT IT READS IS OF BULK AT MOST 1048576: true; the input reads as it did. -/
def tokenCoversUptoRow : OpenClaim := { program := "ytpcnfblpoepmbaa", sum := "b553ecdd5478789bd522358c7fdf2860a5290b2b18cf75c58d043b57a0ca1c09", func := "transclude/trclaw2.TokenCovers", spec := "tokenCovers", inPlace := ["internal/bytealg.IndexByteString", "internal/bytealg.IndexString"], named := ["internal/bytealg.MaxLen"], apart := false, narrowed := true }
def TokenCoversUptoSaid : Prop := tokenCoversUptoRow.holds Try.pinned (OpenSpec.upto tokenCoversSpec)

/-- 'trclaw2.TokenAlone', WHERE WHAT IT READS IS OF BULK AT MOST 1048576: true; the input reads as it did. -/
def tokenAloneUptoRow : OpenClaim := { program := "ytpcnfblpoepmbaa", sum := "b553ecdd5478789bd522358c7fdf2860a5290b2b18cf75c58d043b57a0ca1c09", func := "transclude/trclaw2.TokenAlone", spec := "tokenAlone", inPlace := ["internal/bytealg.IndexByteString", "internal/bytealg.IndexString"], named := ["internal/bytealg.MaxLen"], apart := false, narrowed := true }
def TokenAloneUptoSaid : Prop := tokenAloneUptoRow.holds Try.pinned (OpenSpec.upto tokenAloneSpec)

/-- 'trclaw2.TokenText', WHERE WHAT IT READS IS OF BULK AT MOST 1048576: true; the input reads as it did. -/
def tokenTextUptoRow : OpenClaim := { program := "ytpcnfblpoepmbaa", sum := "b553ecdd5478789bd522358c7fdf2860a5290b2b18cf75c58d043b57a0ca1c09", func := "transclude/trclaw2.TokenText", spec := "tokenText", inPlace := ["internal/bytealg.IndexByteString", "internal/bytealg.IndexString"], named := ["internal/bytealg.MaxLen"], apart := false, narrowed := true }
def TokenTextUptoSaid : Prop := tokenTextUptoRow.holds Try.pinned (OpenSpec.upto tokenTextSpec)

/-- 'trclaw2.TokenLimit', WHERE WHAT IT READS IS OF BULK AT MOST 1048576: true; the input reads as it did. -/
def tokenLimitUptoRow : OpenClaim := { program := "ytpcnfblpoepmbaa", sum := "b553ecdd5478789bd522358c7fdf2860a5290b2b18cf75c58d043b57a0ca1c09", func := "transclude/trclaw2.TokenLimit", spec := "tokenLimit", inPlace := ["internal/abi.NoEscape", "internal/bytealg.MakeNoZero", "internal/bytealg.IndexByteString", "internal/bytealg.IndexString"], named := ["internal/bytealg.MaxLen"], apart := false, narrowed := true }
def TokenLimitUptoSaid : Prop := tokenLimitUptoRow.holds Try.pinned (OpenSpec.upto tokenLimitSpec)

end Rows
end Go.Proofs.Ytpcnfblpoepmbaa
