/- The walks of Count, known and StringsFind, StringsSlice. -/
import Derived.Test.YtiggholdcebjjaaDoorS6
namespace Go.Proofs.YtiggholdcebjjaaDoor
open Go.RowKit
set_option linter.unusedSimpArgs false
set_option linter.unusedVariables false

theorem count_any (s t : ByteArray) (m : Int) (w : World) (hs : s.size ≤ 4294967280) (ht : t.size ≤ 4294967280) (hm : w.cell? ⟨2, 0, none⟩ = some (.int .i64 m)) :
    Calls Tryd.prog 14 #[.string s, .string t] w fun e w' => e = .returned (.int .i64 ((occs s t).length : Int)) ∧ Below w.heap.size w w' := by
  go_enter Tryd.func14, Tryd.ntmps14
  go_wp2_with (first | (go_at_call 21; go_must (refine (all_any s t m _ hs ht hm).mono ?_; rintro e w1 ⟨A, c, rfl, ho, hb1⟩)))
  go_ret
  exact ⟨rfl, hb1⟩
theorem k1 : (slS ⟨#[97, 98, 99, 100, 101, 102]⟩ (-3) 2).toList = [100, 101] := by decide +kernel
theorem k2 : (occs ⟨#[97, 97, 97, 97]⟩ ⟨#[97, 97]⟩).length = 2 := by decide +kernel
theorem k3 : NR ⟨#[97, 195, 169]⟩ = 2 := by decide +kernel
theorem known_any (m : Int) (w : World) (hm : w.cell? ⟨2, 0, none⟩ = some (.int .i64 m)) :
    Calls Tryd.prog 4 #[] w fun e w' => e = .returned (.bool true) ∧ Below w.heap.size w w' := by
  have h0 : 2 < w.heap.size := World.block_lt_of_cell? _ _ hm
  have kk := k1
  go_enter Tryd.func4, Tryd.ntmps4
  go_wp2_with (first
    | (go_at_call 13; go_must (refine (slice_any _ _ _ _ (by decide) (by decide)).mono ?_; rintro e w1 ⟨rfl, hb1⟩))
    | (go_at_call 14; go_must (refine (count_any _ _ m _ (by decide) (by decide) ((hb1.cell (p := ⟨2, 0, none⟩) h0).trans hm)).mono ?_; rw [k2]; rintro e w2 ⟨rfl, hb2⟩))
    | (go_at_call 15; go_must (refine (length_any _ _ (by decide)).mono ?_; rw [k3]; rintro e w3 ⟨rfl, hb3⟩)))
  go_ret
  exact ⟨rfl, below_call (below_call hb1 hb2) hb3⟩

end Go.Proofs.YtiggholdcebjjaaDoor
