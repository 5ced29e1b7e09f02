/- The walks of Count, known and StringsFind, StringsSlice. -/
import Derived.Test.YtiggholdcebjjaaS6
namespace Go.Proofs.Ytiggholdcebjjaa
open Go.RowKit
set_option linter.unusedSimpArgs false
set_option linter.unusedVariables false

theorem count_any (s t : ByteArray) (m : Int) (w : World) (hs : s.size ≤ 4294967280) (ht : t.size ≤ 4294967280) (hm : w.cell? ⟨0, 0, none⟩ = some (.int .i64 m)) :
    Calls Try.prog 20 #[.string s, .string t] w fun e w' => e = .returned (.int .i64 ((occs s t).length : Int)) ∧ Below w.heap.size w w' := by
  go_enter Try.func20, Try.ntmps20
  go_wp2_with (first | (go_at_call 38; go_must (refine (all_any s t m _ hs ht hm).mono ?_; rintro e w1 ⟨A, c, rfl, ho, hb1⟩)))
  go_ret
  exact ⟨rfl, hb1⟩
theorem rcount_any (s t : ByteArray) (w : World) (hs : s.size ≤ 4294967280) (ht : t.size ≤ 4294967280) :
    Calls Try.prog 21 #[.string s, .string t] w fun e w' => e = .returned (.int .i64 ((occs s t).length : Int)) ∧ Below w.heap.size w w' := by
  go_enter Try.func21, Try.ntmps21
  go_wp2_with (first | (go_at_call 39; go_must (refine (roccs_any s t _ hs ht).mono ?_; rintro e w1 ⟨A, c, rfl, ho, hb1⟩)))
  go_ret
  exact ⟨rfl, hb1⟩

theorem k1 : (slS ⟨#[97, 98, 99, 100, 101, 102]⟩ (-3) 2).toList = [100, 101] := by decide +kernel
theorem k2 : (occs ⟨#[97, 97, 97, 97]⟩ ⟨#[97, 97]⟩).length = 2 := by decide +kernel
theorem k3 : NR ⟨#[97, 195, 169]⟩ = 2 := by decide +kernel
theorem known_any (m : Int) (w : World) (hm : w.cell? ⟨0, 0, none⟩ = some (.int .i64 m)) :
    Calls Try.prog 13 #[] w fun e w' => e = .returned (.bool true) ∧ Below w.heap.size w w' := by
  have h0 : 0 < w.heap.size := World.block_lt_of_cell? _ _ hm
  have kk := k1
  go_enter Try.func13, Try.ntmps13
  go_wp2_with (first
    | (go_at_call 16; go_must (refine (slice_any _ _ _ _ (by decide) (by decide)).mono ?_; rintro e w1 ⟨rfl, hb1⟩))
    | (go_at_call 20; go_must (refine (count_any _ _ m _ (by decide) (by decide) ((hb1.cell (p := ⟨0, 0, none⟩) h0).trans hm)).mono ?_; rw [k2]; rintro e w2 ⟨rfl, hb2⟩))
    | (go_at_call 14; go_must (refine (length_any _ _ (by decide)).mono ?_; rw [k3]; rintro e w3 ⟨rfl, hb3⟩)))
  go_ret
  exact ⟨rfl, below_call (below_call hb1 hb2) hb3⟩

set_option maxHeartbeats 1600000 in
theorem lawslice_walk (s : ByteArray) (F n m : Int) (w : World) (hF : -9223372036854775808 ≤ F) (hm : w.cell? ⟨0, 0, none⟩ = some (.int .i64 m)) :
    Calls Try.prog 3 #[.string s, .int .i64 F, .int .i64 n] w fun e w' => e = .returned (.bool true) ∧ Below w.heap.size w w' := by
  have h0 : 0 < w.heap.size := World.block_lt_of_cell? _ _ hm
  by_cases hlong : (400 : Int) < (s.size : Int)
  · go_enter Try.func3, Try.ntmps3
    go_wp2_with (first | (go_at_call 13; go_must (refine (known_any m _ hm).mono ?_; rintro e w1 ⟨rfl, hb1⟩)))
    go_ret
    exact ⟨rfl, hb1⟩
  · have hsz : s.size ≤ 8796093022207 := by omega
    go_enter Try.func3, Try.ntmps3
    go_wp2_with (first
      | (go_at_call 14; go_must (refine (length_any _ _ hsz).mono ?_; rintro e w1 ⟨rfl, hb1⟩))
      | (go_at_call 15; go_must (refine (rlength_any _ _ hsz).mono ?_; rintro e w2 ⟨rfl, hb2⟩))
      | (go_at_call 16; go_must (refine (slice_any _ _ _ _ hsz hF).mono ?_; rintro e w3 ⟨rfl, hb3⟩))
      | (go_at_call 17; go_must (refine (rslice_any _ _ _ _ hsz hF).mono ?_; rintro e w4 ⟨rfl, hb4⟩; (have hb := below_call (below_call (below_call hb1 hb2) hb3) hb4)))
      | (go_at_call 13; go_must (refine (known_any m _ ((hb.cell (p := ⟨0, 0, none⟩) h0).trans hm)).mono ?_; rintro e w5 ⟨rfl, hb5⟩)))
    go_ret
    exact ⟨rfl, below_call hb hb5⟩

set_option maxHeartbeats 1600000 in
theorem lawfind_walk (s t : ByteArray) (F m : Int) (w : World) (hm : w.cell? ⟨0, 0, none⟩ = some (.int .i64 m)) :
    Calls Try.prog 5 #[.string s, .string t, .int .i64 F] w fun e w' => e = .returned (.bool true) ∧ Below w.heap.size w w' := by
  have h0 : 0 < w.heap.size := World.block_lt_of_cell? _ _ hm
  by_cases hlong : (400 : Int) < (s.size : Int) ∨ (100 : Int) < (t.size : Int)
  · rcases Classical.em ((400 : Int) < (s.size : Int)) with h1 | h1
    · go_enter Try.func5, Try.ntmps5
      go_wp2_with (first | (go_at_call 13; go_must (refine (known_any m _ hm).mono ?_; rintro e w1 ⟨rfl, hb1⟩)))
      go_ret
      exact ⟨rfl, hb1⟩
    · have h2 : (100 : Int) < (t.size : Int) := by omega
      clear hlong
      go_enter Try.func5, Try.ntmps5
      go_wp2_with (first | (go_at_call 13; go_must (refine (known_any m _ hm).mono ?_; rintro e w1 ⟨rfl, hb1⟩)))
      go_ret
      exact ⟨rfl, hb1⟩
  · have g1 : ¬ (400 : Int) < (s.size : Int) := by omega
    have g2 : ¬ (100 : Int) < (t.size : Int) := by omega
    have hsz : s.size ≤ 4294967280 := by omega
    have htz : t.size ≤ 4294967280 := by omega
    clear hlong
    go_enter Try.func5, Try.ntmps5
    go_wp2_with (first
      | (go_at_call 18; go_must (refine (find_any s t F m _ hsz hm).mono ?_; rintro e w1 ⟨rfl, hb1⟩))
      | (go_at_call 19; go_must (refine (rfind_any s t F _ (by omega) (by omega)).mono ?_; rintro e w2 ⟨rfl, hb2⟩; (have hb12 := below_call hb1 hb2)))
      | (go_at_call 20; go_must (refine (count_any s t m _ hsz htz ((hb12.cell (p := ⟨0, 0, none⟩) h0).trans hm)).mono ?_; rintro e w3 ⟨rfl, hb3⟩))
      | (go_at_call 21; go_must (refine (rcount_any s t _ hsz htz).mono ?_; rintro e w4 ⟨rfl, hb4⟩; (have hb := below_call (below_call hb12 hb3) hb4)))
      | (go_at_call 13; go_must (refine (known_any m _ ((hb.cell (p := ⟨0, 0, none⟩) h0).trans hm)).mono ?_; rintro e w5 ⟨rfl, hb5⟩)))
    go_ret
    exact ⟨rfl, below_call hb hb5⟩
end Go.Proofs.Ytiggholdcebjjaa
