/- The tape: Of. -/
import Derived.Test.YtakbpdlfgjfbeaaDoorD3
namespace Go.Proofs.YtakbpdlfgjfbeaaDoor
open Go.RowKit
set_option linter.unusedSimpArgs false
set_option linter.unusedVariables false

def TOf (w : World) (g : Nat) (A : Option Addr) (n c : Nat) (N : Nat) (L : List ByteArray) (e : Ending) (w' : World) : Prop := ∃ k : Nat, e = .returned (.string (L.getD k ByteArray.empty)) ∧ k < N ∧ TapeAt w' g A n c ∧ w.grownBy w' (some g)

set_option maxHeartbeats 1600000 in
theorem of_any (w0 : World) (g : Nat) (A : Option Addr) (n c : Nat) (zs : List Int) (b N cc : Nat) (L : List ByteArray) (w : World) (hr : RdZ w0 A n c zs) (hb0 : Below w0.heap.size w0 w) (hg : w0.heap.size ≤ g) (hs : TapeAt w g A n c)
    (hN : 0 < N) (hN2 : N ≤ 1000) (hne : b ≠ g) (hcl : ∀ j, j < N → w.cell? ⟨b, j, none⟩ = some (.string (L.getD j ByteArray.empty))) :
    Calls Tryd.prog 49 #[.pointer (some ⟨g, 0, none⟩), .slice (some ⟨b, 0, none⟩) N cc] w (TOf w g A n c N L) := by
  have HX := Lib.hid (tnext_any w0 g A n c zs N w hr hb0 hg hs (by omega) (by omega))
  have HL := Lib.hid hcl
  clear hcl hr hb0 hs
  go_enter Tryd.func49, Tryd.ntmps49
  go_wp2_with (first
    | (go_at_call 48; go_must (refine HX.out.mono ?_; rintro e w1 ⟨k, rfl, hk, ht, hgr⟩; (have hcell := hgr.cell (HL.out k (by omega)) (by simpa using hne)); (have hk0 : (0 : Int) ≤ (k : Int) := by omega))))
  go_ret
  exact ⟨k, rfl, by omega, ht, hgr⟩
end Go.Proofs.YtakbpdlfgjfbeaaDoor
