/- The walks of package disk: Crash. -/
import Derived.Test.YtaagmiidapammaaDisk3
namespace Go.Proofs.Ytaagmiidapammaa
open Go.RowKit
set_option linter.unusedSimpArgs false
set_option linter.unusedVariables false

def crK (n : Nat) (s keep : Int) : Int := max 0 (min keep (n - s))
def crL (l : List UInt8) (s keep : Int) (sp : UInt8) : List UInt8 :=
  if validB l.length s = true then
    (if 0 < crK l.length s keep then (l.take (s + crK l.length s keep).toNat).set ((s + crK l.length s keep).toNat - 1) (l.getD ((s + crK l.length s keep).toNat - 1) 0 ^^^ sp)
     else l.take (s + crK l.length s keep).toNat)
  else l
def crS (l : List UInt8) (s keep : Int) : Int := if validB l.length s = true then s + crK l.length s keep else s

end Go.Proofs.Ytaagmiidapammaa
