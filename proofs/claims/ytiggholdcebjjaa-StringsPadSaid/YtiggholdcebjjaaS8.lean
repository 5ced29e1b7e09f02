/- The walks of StringsDivide and StringsWithin. -/
import Derived.Test.YtiggholdcebjjaaS7
import Derived.Test.YtiggholdcebjjaaSPlain5
namespace Go.Proofs.Ytiggholdcebjjaa
open Go.RowKit
set_option linter.unusedSimpArgs false
set_option linter.unusedVariables false

theorem and65535 (x : Int) : bits .and .i64 x 65535 = x % 65536 := by
  have e : (BitVec.ofInt 64 (65535 : Int)).toNat = 65535 := by decide
  show IntKind.i64.wrap ((BitVec.ofInt 64 x &&& BitVec.ofInt 64 65535).toNat : Int) = _
  rw [BitVec.toNat_and, e, BitVec.toNat_ofInt, show (65535 : Nat) = 2 ^ 16 - 1 from rfl, Nat.and_two_pow_sub_one_eq_mod, IntKind.wrap_i64]
  omega

set_option maxHeartbeats 1600000 in
theorem lawdivide_walk (s : ByteArray) (n m : Int) (w : World) (hm : w.cell? ⟨0, 0, none⟩ = some (.int .i64 m)) :
    Calls Try.prog 4 #[.string s, .int .i64 n] w fun e w' => e = .returned (.bool true) ∧ Below w.heap.size w w' := by
  have h0 : 0 < w.heap.size := World.block_lt_of_cell? _ _ hm
  by_cases hlong : (400 : Int) < (s.size : Int)
  · go_enter Try.func4, Try.ntmps4
    go_wp2_with (first | (go_at_call 13; go_must (refine (known_any m _ hm).mono ?_; rintro e w1 ⟨rfl, hb1⟩)))
    go_ret
    exact ⟨rfl, hb1⟩
  · have hsz : s.size ≤ 8796093022207 := by omega
    have hN := NR_le s
    obtain ⟨j, hj, hj2⟩ : ∃ j : Nat, bits .and .i64 n 65535 = (j : Int) ∧ j ≤ 65535 := by
      rw [and65535]
      exact ⟨(n % 65536).toNat, by omega, by omega⟩
    obtain ⟨k, hk⟩ : ∃ k, k = j % (NR s + 1) := ⟨_, rfl⟩
    have hkN : k ≤ NR s := by have := Nat.mod_lt j (show 0 < NR s + 1 by omega); omega
    have hk1 : (j : Int) % ((NR s : Int) + 1) = (k : Int) := by rw [hk]; simp
    clear hk
    have hkz := O_size hkN
    obtain ⟨x, hx⟩ : ∃ x, x = s.extract 0 (O s k) := ⟨_, rfl⟩
    obtain ⟨y, hy⟩ : ∃ y, y = s.extract (O s k) s.size := ⟨_, rfl⟩
    have hxy : x ++ y = s := by rw [hx, hy]; exact ext_cat2 s hkz
    have hxs : ¬ 9223372036854775807 < x.size + y.size := by
      have := congrArg ByteArray.size hxy
      rw [ByteArray.size_append] at this
      omega
    have HL := length_any s
    have HA : Hid (∀ W, Calls Try.prog 16 #[.string s, .int .i64 0, .int .i64 k] W fun e w' => e = .returned (.string x) ∧ Below W.heap.size W w') := Lib.hid fun W => by
      have := slice_any s 0 k W hsz (by omega)
      rwa [slS_pre hkN, ← hx] at this
    have HB : Hid (∀ W, Calls Try.prog 16 #[.string s, .int .i64 k, .int .i64 32768] W fun e w' => e = .returned (.string y) ∧ Below W.heap.size W w') := Lib.hid fun W => by
      have := slice_any s k 32768 W hsz (by omega)
      rwa [slS_rest hkN (by omega), ← hy] at this
    have HC : Hid (k < NR s → ∀ W, Calls Try.prog 16 #[.string s, .int .i64 0, .int .i64 ((k : Int) - (NR s : Int))] W fun e w' => e = .returned (.string x) ∧ Below W.heap.size W w') := Lib.hid fun h W => by
      have := slice_any s 0 ((k : Int) - (NR s : Int)) W hsz (by omega)
      rwa [slS_neg h, ← hx] at this
    have HD : Hid (∀ W, Calls Try.prog 16 #[.string s, .int .i64 (-(NR s : Int)), .int .i64 (NR s)] W fun e w' => e = .returned (.string s) ∧ Below W.heap.size W w') := Lib.hid fun W => by
      have := slice_any s (-(NR s : Int)) (NR s) W hsz (by omega)
      rwa [slS_all] at this
    have HE : Hid (∀ W, Calls Try.prog 14 #[.string s] W fun e w' => e = .returned (.int .i64 (NR s : Int)) ∧ Below W.heap.size W w') := Lib.hid fun W => length_any s W hsz
    clear hx hy hkz HL
    generalize NR s = N at *
    have hw1 : IntKind.i64.wrap ((k : Int) - (N : Int)) = (k : Int) - (N : Int) := by rw [IntKind.wrap_i64]; omega
    have hw2 : IntKind.i64.wrap (-(N : Int)) = -(N : Int) := by rw [IntKind.wrap_i64]; omega
    have hw3 : IntKind.i64.wrap ((N : Int) + 1) = (N : Int) + 1 := by rw [IntKind.wrap_i64]; omega
    have hj0 : (0 : Int) ≤ (j : Int) := by omega
    have hN0 : (0 : Int) ≤ (N : Int) + 1 := by omega
    have hN1 : ((N : Int) + 1 == 0) = false := by simp; omega
    have hk2 : ((j : Int).tmod ((N : Int) + 1)) = (k : Int) := by rw [Int.tmod_eq_emod_of_nonneg hj0]; exact hk1
    have HXY := Lib.hid hxy
    by_cases hkk : k = N
    · have hq : ((k : Int) == (N : Int)) = true := by simp [hkk]
      clear HC hkk
      go_enter Try.func4, Try.ntmps4
      go_wp2_with (first
        | (go_at_call 14; go_must (refine (HE.out _).mono ?_; rintro e w1 ⟨rfl, hb1⟩))
        | (go_at_call 16; ((with_reducible refine (HA.out _).mono ?_); rintro e w2 ⟨rfl, hb2⟩))
        | (go_at_call 16; ((with_reducible refine (HB.out _).mono ?_); rintro e w3 ⟨rfl, hb3⟩; (have hb13 := below_call (below_call hb1 hb2) hb3)))
        | (go_at_call 16; ((with_reducible refine (HD.out _).mono ?_); rintro e w5 ⟨rfl, hb5⟩; (have hb15 := below_call hb13 hb5)))
        | (go_at_call 13; go_must (refine (known_any m _ ((hb15.cell (p := ⟨0, 0, none⟩) h0).trans hm)).mono ?_; rintro e w6 ⟨rfl, hb6⟩)))
      go_ret
      exact ⟨rfl, below_call hb15 hb6⟩
    · have hq : ((k : Int) == (N : Int)) = false := by simp; omega
      have HC2 := HC.out (by omega)
      have HC3 := Lib.hid HC2
      clear HC HC2 hkk
      go_enter Try.func4, Try.ntmps4
      go_wp2_with (first
        | (go_at_call 14; go_must (refine (HE.out _).mono ?_; rintro e w1 ⟨rfl, hb1⟩))
        | (go_at_call 16; ((with_reducible refine (HA.out _).mono ?_); rintro e w2 ⟨rfl, hb2⟩))
        | (go_at_call 16; ((with_reducible refine (HB.out _).mono ?_); rintro e w3 ⟨rfl, hb3⟩; (have hb13 := below_call (below_call hb1 hb2) hb3)))
        | (go_at_call 16; ((with_reducible refine (HC3.out _).mono ?_); rintro e w4 ⟨rfl, hb4⟩; (have hb14 := below_call hb13 hb4)))
        | (go_at_call 16; ((with_reducible refine (HD.out _).mono ?_); rintro e w5 ⟨rfl, hb5⟩; (have hb15 := below_call hb14 hb5)))
        | (go_at_call 13; go_must (refine (known_any m _ ((hb15.cell (p := ⟨0, 0, none⟩) h0).trans hm)).mono ?_; rintro e w6 ⟨rfl, hb6⟩)))
      go_ret
      exact ⟨rfl, below_call hb15 hb6⟩

theorem plain_yes (s : ByteArray) (w : World) (hsz : s.size ≤ 8796093022207) (ha : Asc s) :
    Calls Try.prog 22 #[.string s] w fun e w' => e = .returned (.bool true) ∧ w' = w := by
  have HA := Lib.hid ha
  clear ha
  go_enter Try.func22, Try.ntmps22
  go_wp2
  go_loop [3] (fun i => ∃ k : Nat, k ≤ s.size ∧ i = .int .i64 k) (fun i => s.size - (intOf i).toNat)
  case atStart => exact ⟨0, Nat.zero_le _, rfl⟩
  case round =>
    obtain ⟨k, hk, rfl⟩ := hrel
    by_cases hlt : k < s.size
    · have hc := HA.out k hlt
      have hc2 : ¬ (128 : Int) ≤ (s[k].toNat : Int) := by omega
      clear hc
      go_wp2
      go_round
      case rel => exact ⟨k + 1, by omega, by go_num⟩
      case measure => simp [intOf]; omega
    · go_wp2
      go_ret
      exact ⟨rfl, rfl⟩
theorem plain_no (s : ByteArray) (w : World) (hsz : s.size ≤ 8796093022207) (ha : ¬ Asc s) :
    Calls Try.prog 22 #[.string s] w fun e w' => e = .returned (.bool false) ∧ w' = w := by
  have HA := Lib.hid ha
  clear ha
  go_enter Try.func22, Try.ntmps22
  go_wp2
  go_loop [3] (fun i => ∃ k : Nat, k ≤ s.size ∧ i = .int .i64 k ∧ Hid (∀ (j : Nat) (h : j < s.size), j < k → (s[j]'h).toNat < 128)) (fun i => s.size - (intOf i).toNat)
  case atStart => exact ⟨0, Nat.zero_le _, rfl, Lib.hid fun j h h2 => by omega⟩
  case round =>
    obtain ⟨k, hk, rfl, HK⟩ := hrel
    by_cases hlt : k < s.size
    · by_cases hc : s[k].toNat < 128
      · have hc2 : ¬ (128 : Int) ≤ (s[k].toNat : Int) := by omega
        have HC := Lib.hid hc
        clear hc
        go_wp2
        go_round
        case rel => exact ⟨k + 1, by omega, by go_num, Lib.hid fun j h h2 => by
          rcases Nat.lt_or_ge j k with h3 | h3
          · exact HK.out j h h3
          · obtain rfl : j = k := by omega
            exact HC.out⟩
        case measure => simp [intOf]; omega
      · have hc2 : (128 : Int) ≤ (s[k].toNat : Int) := by omega
        clear hc
        go_wp2
        go_ret
        exact ⟨rfl, rfl⟩
    · exact absurd (fun j h => HK.out j h (by omega)) HA.out
end Go.Proofs.Ytiggholdcebjjaa
