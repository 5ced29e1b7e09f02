/- The pair of made texts. -/
import Derived.Test.YtakbpdlfgjfbeaaDoorD5
namespace Go.Proofs.YtakbpdlfgjfbeaaDoor
open Go.RowKit
set_option linter.unusedSimpArgs false
set_option linter.unusedVariables false

set_option maxHeartbeats 1600000 in
theorem pair_any (A : Option Addr) (n c : Nat) (zs : List Int) (w : World) (hr : RdZ w A n c zs) :
    Calls Tryd.prog 12 #[.slice A n c] w fun e w' => ∃ x y : ByteArray, e = .returned (.tuple #[.string x, .string y]) ∧ x.size ≤ 150 ∧ y.size ≤ 150 ∧ Below w.heap.size w w' := by
  have HL : Hid (∀ (W : World), Below w.heap.size w W → TapeAt W w.heap.size A n c → Calls Tryd.prog 31 #[.pointer (some ⟨w.heap.size, 0, none⟩), .int .i64 12] W fun e w' => ∃ s : ByteArray, e = .returned (.string s) ∧ s.size ≤ 150 ∧ TapeAt w' w.heap.size A n c ∧ Below w.heap.size w w') := Lib.hid fun W h1 h2 => tlines_any w w.heap.size A n c zs W hr h1 (Nat.le_refl _) h2
  have HW := Lib.hid (new_any A n c w)
  clear hr
  go_enter Tryd.func12, Tryd.ntmps12
  go_wp2_with fail
  go_at_call 30
  refine HW.out.mono ?_
  rintro e w1 ⟨rfl, ht1, hb1⟩
  go_wp2_with fail
  go_at_call 31
  refine (HL.out _ hb1 ht1).mono ?_
  rintro e w2 ⟨x, rfl, hx, ht2, hb2⟩
  go_wp2_with fail
  go_at_call 31
  refine (HL.out _ hb2 ht2).mono ?_
  rintro e w3 ⟨y, rfl, hy, ht3, hb3⟩
  go_wp2
  go_ret2
  exact ⟨x, y, rfl, hx, hy, hb3⟩
end Go.Proofs.YtakbpdlfgjfbeaaDoor
