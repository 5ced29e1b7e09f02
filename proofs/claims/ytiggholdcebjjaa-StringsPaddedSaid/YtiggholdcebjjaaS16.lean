/- The walk of StringsPadded. -/
import Derived.Test.YtiggholdcebjjaaS15
namespace Go.Proofs.Ytiggholdcebjjaa
open Go.RowKit
set_option linter.unusedSimpArgs false
set_option linter.unusedVariables false

theorem and255s (x : Int) : bits .and .i64 x 255 = x % 256 := by
  have e : (BitVec.ofInt 64 (255 : Int)).toNat = 255 := by decide
  show IntKind.i64.wrap ((BitVec.ofInt 64 x &&& BitVec.ofInt 64 255).toNat : Int) = _
  rw [BitVec.toNat_and, e, BitVec.toNat_ofInt, show (255 : Nat) = 2 ^ 8 - 1 from rfl, Nat.and_two_pow_sub_one_eq_mod, IntKind.wrap_i64]
  omega
theorem asc_empty : Asc ByteArray.empty := by rw [asc_list]; intro x hx; simp at hx
theorem asc_PP {s f : ByteArray} (hf : Asc f) (n : Int) : Asc (PP s f n) := by
  rcases PP_form s f n with ⟨e, _⟩ | ⟨d, e, _⟩
  · rw [e]; exact asc_empty
  · rw [e]; exact asc_PD hf d
theorem size_PP {s f : ByteArray} (hs : Asc s) (hf : Asc f) (h0 : f.size ≠ 0) (n : Int) : ((PP s f n).size : Int) + (s.size : Int) = max n (s.size : Int) := by
  have hN := asc_NR hs
  rcases PP_form s f n with ⟨e, h⟩ | ⟨d, e, h1, h2, h3⟩
  · rw [e]
    show ((0 : Nat) : Int) + _ = _
    omega
  · rw [e, size_PD hf h0]
    omega
theorem suffix_app (a b : ByteArray) : Lib.hasSuffix (a ++ b).data.toList b.data.toList = true := by
  unfold Lib.hasSuffix
  simp
theorem prefix_app (a b : ByteArray) : Lib.hasPrefix (a ++ b).data.toList a.data.toList = true := by
  unfold Lib.hasPrefix
  simp

set_option maxHeartbeats 4000000 in
theorem lawpadded_walk (s f : ByteArray) (n0 m : Int) (w : World) (hm : w.cell? ⟨0, 0, none⟩ = some (.int .i64 m)) :
    Calls Try.prog 12 #[.string s, .int .i64 n0, .string f] w fun e w' => e = .returned (.bool true) ∧ Below w.heap.size w w' := by
  have h0 : 0 < w.heap.size := World.block_lt_of_cell? _ _ hm
  have hx := Below.refl w.heap.size w
  by_cases h1 : (200 : Int) < (s.size : Int)
  · go_enter Try.func12, Try.ntmps12
    go_wp2_with (first | (go_at_call 13; ((with_reducible refine (known_any m _ ((hx.cell (p := ⟨0, 0, none⟩) h0).trans hm)).mono ?_); rintro e wn ⟨rfl, hbn⟩; replace hx := below_call hx hbn; clear hbn)))
    go_ret
    exact ⟨rfl, hx⟩
  by_cases h2 : (20 : Int) < (f.size : Int)
  · go_enter Try.func12, Try.ntmps12
    go_wp2_with (first | (go_at_call 13; ((with_reducible refine (known_any m _ ((hx.cell (p := ⟨0, 0, none⟩) h0).trans hm)).mono ?_); rintro e wn ⟨rfl, hbn⟩; replace hx := below_call hx hbn; clear hbn)))
    go_ret
    exact ⟨rfl, hx⟩
  by_cases ha : Asc s
  case neg =>
    have HP := Lib.hid fun W => plain_no s W (by omega) ha
    clear ha
    go_enter Try.func12, Try.ntmps12
    go_wp2_with (first
      | (go_at_call 22; ((with_reducible refine (HP.out _).mono ?_); rintro e w2 ⟨rfl, rfl⟩))
      | (go_at_call 13; ((with_reducible refine (known_any m _ ((hx.cell (p := ⟨0, 0, none⟩) h0).trans hm)).mono ?_); rintro e wn ⟨rfl, hbn⟩; replace hx := below_call hx hbn; clear hbn)))
    go_ret
    exact ⟨rfl, hx⟩
  have HPa := Lib.hid fun W => plain_yes s W (by omega) ha
  by_cases hb : Asc f
  case neg =>
    have HP := Lib.hid fun W => plain_no f W (by omega) hb
    clear ha hb
    go_enter Try.func12, Try.ntmps12
    go_wp2_with (first
      | (go_at_call 22; ((with_reducible refine (HPa.out _).mono ?_); rintro e w2 ⟨rfl, rfl⟩))
      | (go_at_call 22; ((with_reducible refine (HP.out _).mono ?_); rintro e w2 ⟨rfl, rfl⟩))
      | (go_at_call 13; ((with_reducible refine (known_any m _ ((hx.cell (p := ⟨0, 0, none⟩) h0).trans hm)).mono ?_); rintro e wn ⟨rfl, hbn⟩; replace hx := below_call hx hbn; clear hbn)))
    go_ret
    exact ⟨rfl, hx⟩
  have HPb := Lib.hid fun W => plain_yes f W (by omega) hb
  by_cases hf0 : f.size = 0
  · have he : f.toList = [] := by rw [size_empty hf0]; exact empty_toList
    have he2 : f.toList.isEmpty = true := by rw [he]; rfl
    clear ha hb hf0
    go_enter Try.func12, Try.ntmps12
    go_wp2_with (first
      | (go_at_call 22; ((with_reducible refine (HPa.out _).mono ?_); rintro e w2 ⟨rfl, rfl⟩))
      | (go_at_call 22; ((with_reducible refine (HPb.out _).mono ?_); rintro e w2 ⟨rfl, rfl⟩))
      | (go_at_call 13; ((with_reducible refine (known_any m _ ((hx.cell (p := ⟨0, 0, none⟩) h0).trans hm)).mono ?_); rintro e wn ⟨rfl, hbn⟩; replace hx := below_call hx hbn; clear hbn)))
    go_ret
    exact ⟨rfl, hx⟩
  have he := nonempty_list hf0
  obtain ⟨j, hj, hj2⟩ : ∃ j : Nat, bits .and .i64 n0 255 = (j : Int) ∧ j ≤ 255 := by
    rw [and255s]
    exact ⟨(n0 % 256).toNat, by omega, by omega⟩
  have hpp := size_PP ha hb hf0 (j : Int)
  have hap := asc_PP (s := s) hb (j : Int)
  have hab := asc_append hap ha
  have hba := asc_append ha hap
  obtain ⟨z, hz⟩ : ∃ z : Nat, max (j : Int) (s.size : Int) = (z : Int) := ⟨(max (j : Int) (s.size : Int)).toNat, by omega⟩
  rw [hz] at hpp
  have hbig : ¬ 32768 < (PP s f j).size + s.size := by omega
  have HA : Hid (∀ W, Calls Try.prog 27 #[.string s, .int .i64 j, .string f] W fun e w' => e = .returned (.tuple #[.string (PP s f j ++ s), .int .i64 0]) ∧ Below W.heap.size W w') := Lib.hid fun W => by
    have := padleft_any s f j W (by omega) (by omega) (by omega)
    rwa [FV_left hbig] at this
  have HB : Hid (∀ W, Calls Try.prog 29 #[.string s, .int .i64 j, .string f] W fun e w' => e = .returned (.tuple #[.string (s ++ PP s f j), .int .i64 0]) ∧ Below W.heap.size W w') := Lib.hid fun W => by
    have := padright_any s f j W (by omega) (by omega) (by omega)
    rwa [FV_right hbig] at this
  have HC : Hid (∀ W, Calls Try.prog 14 #[.string (PP s f j ++ s)] W fun e w' => e = .returned (.int .i64 (z : Int)) ∧ Below W.heap.size W w') := Lib.hid fun W => by
    have := length_any (PP s f j ++ s) W (by rw [ByteArray.size_append]; omega)
    rwa [asc_NR hab, ByteArray.size_append, show (PP s f j).size + s.size = z by omega] at this
  have HD : Hid (∀ W, Calls Try.prog 14 #[.string (s ++ PP s f j)] W fun e w' => e = .returned (.int .i64 (z : Int)) ∧ Below W.heap.size W w') := Lib.hid fun W => by
    have := length_any (s ++ PP s f j) W (by rw [ByteArray.size_append]; omega)
    rwa [asc_NR hba, ByteArray.size_append, show s.size + (PP s f j).size = z by omega] at this
  have HE : Hid (∀ W, Calls Try.prog 31 #[.string (PP s f j ++ s), .string s] W fun e w' => e = .returned (.bool true) ∧ w' = W) := Lib.hid fun W => by
    have := Try.strings_HasSuffix (PP s f j ++ s) s W (by rw [ByteArray.size_append]; omega)
    rwa [suffix_app] at this
  have HF : Hid (∀ W, Calls Try.prog 32 #[.string (s ++ PP s f j), .string s] W fun e w' => e = .returned (.bool true) ∧ w' = W) := Lib.hid fun W => by
    have := Try.strings_HasPrefix (s ++ PP s f j) s W
    rwa [prefix_app] at this
  clear ha hb hf0 hpp hap hab hba hbig
  generalize PP s f j = x at *
  have j0 : (0 : Int) ≤ (j : Int) := by omega
  go_enter Try.func12, Try.ntmps12
  go_wp2_with (first
    | (go_at_call 22; ((with_reducible refine (HPa.out _).mono ?_); rintro e w2 ⟨rfl, rfl⟩))
    | (go_at_call 22; ((with_reducible refine (HPb.out _).mono ?_); rintro e w2 ⟨rfl, rfl⟩))
    | (go_at_call 27; ((with_reducible refine (HA.out _).mono ?_); rintro e wn ⟨rfl, hbn⟩; replace hx := below_call hx hbn; clear hbn))
    | (go_at_call 29; ((with_reducible refine (HB.out _).mono ?_); rintro e wn ⟨rfl, hbn⟩; replace hx := below_call hx hbn; clear hbn))
    | (go_at_call 14; ((with_reducible refine (HC.out _).mono ?_); rintro e wn ⟨rfl, hbn⟩; replace hx := below_call hx hbn; clear hbn))
    | (go_at_call 14; ((with_reducible refine (HD.out _).mono ?_); rintro e wn ⟨rfl, hbn⟩; replace hx := below_call hx hbn; clear hbn))
    | (go_at_call 31; ((with_reducible refine (HE.out _).mono ?_); rintro e w2 ⟨rfl, rfl⟩))
    | (go_at_call 32; ((with_reducible refine (HF.out _).mono ?_); rintro e w2 ⟨rfl, rfl⟩))
    | (go_at_call 13; ((with_reducible refine (known_any m _ ((hx.cell (p := ⟨0, 0, none⟩) h0).trans hm)).mono ?_); rintro e wn ⟨rfl, hbn⟩; replace hx := below_call hx hbn; clear hbn)))
  go_ret
  exact ⟨rfl, hx⟩
end Go.Proofs.Ytiggholdcebjjaa
