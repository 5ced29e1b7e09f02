/- The walks of both Replaces. -/
import Derived.Test.YtiggholdcebjjaaS10
import Derived.Test.YtiggholdcebjjaaSB
import Derived.Test.YtiggholdcebjjaaSPlain6
namespace Go.Proofs.Ytiggholdcebjjaa
open Go.RowKit
set_option linter.unusedSimpArgs false
set_option linter.unusedVariables false

/-- what Replace returns -/
def RV (s t u : ByteArray) (most : Int) : Value := if 32768 < (rpAll s t u (rpK s t most)).size then .tuple #[.string ByteArray.empty, .int .i64 3] else .tuple #[.string (rpAll s t u (rpK s t most)), .int .i64 0]

theorem prod_bd {K a b : Nat} (hK : K ≤ 401) (ha : a ≤ 400) (hb : b ≤ 100) : ∃ P : Int, (K : Int) * ((a : Int) - (b : Int)) = P ∧ -40100 ≤ P ∧ P ≤ 160400 := by
  refine ⟨_, rfl, ?_, ?_⟩
  · have h1 : K * b ≤ 401 * 100 := Nat.mul_le_mul hK hb
    have h3 : (K : Int) * (b : Int) ≤ 40100 := by rw [← Int.natCast_mul]; omega
    have h2 : (0 : Int) ≤ (K : Int) * (a : Int) := by rw [← Int.natCast_mul]; omega
    rw [Int.mul_sub]; omega
  · have h1 : K * a ≤ 401 * 400 := Nat.mul_le_mul hK ha
    have h3 : (K : Int) * (a : Int) ≤ 160400 := by rw [← Int.natCast_mul]; omega
    have h2 : (0 : Int) ≤ (K : Int) * (b : Int) := by rw [← Int.natCast_mul]; omega
    rw [Int.mul_sub]; omega

set_option maxRecDepth 100000 in
set_option maxHeartbeats 8000000 in
theorem replace_any (s t u : ByteArray) (most m : Int) (w : World) (hs : s.size ≤ 400) (ht : t.size ≤ 100) (hu : u.size ≤ 400) (hm : w.cell? ⟨0, 0, none⟩ = some (.int .i64 m)) :
    Calls Try.prog 25 #[.string s, .string t, .string u, .int .i64 most] w fun e w' => e = .returned (RV s t u most) ∧ Below w.heap.size w w' := by
  have hN := NO_le s t
  have hK := rpK_le (s := s) (t := t) (most := most)
  have HRO : Hid (Calls Try.prog 38 #[.string s, .string t] w fun e w' => ∃ A c, e = .returned (.slice A (NO s t) c) ∧ OwR RI 1 w' w.heap.size 3 A (NO s t) c (occs s t) ∧ Below w.heap.size w w') := Lib.hid (all_any s t m w (by omega) (by omega) hm)
  have hway : (0 ≤ most ∧ most < (NO s t : Int) ∧ most = (rpK s t most : Int)) ∨ (¬ (0 ≤ most) ∧ rpK s t most = NO s t) ∨ (0 ≤ most ∧ ¬ (most < (NO s t : Int)) ∧ rpK s t most = NO s t) := by
    unfold rpK
    split <;> omega
  have HV : RV s t u most = if 32768 < (rpAll s t u (rpK s t most)).size then .tuple #[.string ByteArray.empty, .int .i64 3] else .tuple #[.string (rpAll s t u (rpK s t most)), .int .i64 0] := rfl
  rw [HV]
  clear HV
  obtain ⟨K, hKK⟩ : ∃ K, K = rpK s t most := ⟨_, rfl⟩
  rw [← hKK] at hK hway ⊢
  clear hKK
  have hsz := size_rpAll_int (u := u) hK
  obtain ⟨P, hP, hP1, hP2⟩ := prod_bd (K := K) (a := u.size) (b := t.size) (by omega) hu ht
  rw [hP] at hsz
  have HLO : Hid (∀ k, k ≤ NO s t → lo s t k ≤ hi s t k ∧ hi s t k ≤ s.size) := Lib.hid fun k hk => ⟨lo_le hk, hi_size hk⟩
  have HHI : Hid (∀ k, k < NO s t → (occs s t).getD k 0 = hi s t k ∧ lo s t (k + 1) = hi s t k + t.size) := Lib.hid fun k hk => ⟨(hi_lt hk).symm, lo_hi hk⟩
  have HLL : Hid (lo s t K ≤ s.size) := Lib.hid (lo_size hK)
  have HRA : Hid (rpAll s t u K = rp s t u K ++ s.extract (lo s t K) s.size) := Lib.hid rfl
  have HRS : Hid (∀ k, rp s t u (k + 1) = rp s t u k ++ (s.extract (lo s t k) (hi s t k) ++ u)) := Lib.hid fun k => (rp_assoc _ _ _).symm
  have HRZ : Hid (∀ k, k ≤ K → (rp s t u k).size ≤ (rpAll s t u K).size) := Lib.hid fun k hk => rp_le_all hk
  have HR0 : Hid (rp s t u 0 = ByteArray.empty) := Lib.hid rfl
  generalize rpAll s t u K = Z at *
  generalize hR : rp s t u = R at *
  clear hR
  generalize NO s t = N at *
  have w1' : IntKind.i64.wrap ((u.size : Int) - (t.size : Int)) = (u.size : Int) - (t.size : Int) := by rw [IntKind.wrap_i64]; omega
  have w2' : IntKind.i64.wrap P = P := by rw [IntKind.wrap_i64]; omega
  have w3' : IntKind.i64.wrap ((s.size : Int) + P) = (Z.size : Int) := by rw [IntKind.wrap_i64]; omega
  have w4' : (s.size : Int) + P = (Z.size : Int) := hsz.symm
  have HSZ := Lib.hid hsz
  clear hsz
  by_cases hbig : 32768 < Z.size
  · rw [if_pos hbig]
    have hbig2 : (32768 : Int) < (Z.size : Int) := by omega
    clear hbig
    rcases hway with ⟨q1, q2, rfl⟩ | ⟨q1, rfl⟩ | ⟨q1, q2, rfl⟩
    · go_enter Try.func25, Try.ntmps25
      go_wp2_with (first | (go_at_call 38; go_must (refine HRO.out.mono ?_; rintro e w1 ⟨A, c, rfl, ho, hb1⟩; have hcap := ho.cap; have hc2 : (K : Int) ≤ (c : Int) := by omega)))
      go_ret2
      exact ⟨rfl, hb1⟩
    · go_enter Try.func25, Try.ntmps25
      go_wp2_with (first | (go_at_call 38; go_must (refine HRO.out.mono ?_; rintro e w1 ⟨A, c, rfl, ho, hb1⟩)))
      go_ret2
      exact ⟨rfl, hb1⟩
    · go_enter Try.func25, Try.ntmps25
      go_wp2_with (first | (go_at_call 38; go_must (refine HRO.out.mono ?_; rintro e w1 ⟨A, c, rfl, ho, hb1⟩)))
      go_ret2
      exact ⟨rfl, hb1⟩
  · rw [if_neg hbig]
    have hbig2 : ¬ (32768 : Int) < (Z.size : Int) := by omega
    have hZ : Z.size ≤ 32768 := by omega
    clear hbig
    rcases hway with ⟨q1, q2, rfl⟩ | ⟨q1, rfl⟩ | ⟨q1, q2, rfl⟩
    all_goals
      go_enter Try.func25, Try.ntmps25
      go_wp2_with (first | (go_at_call 38; go_must (refine HRO.out.mono ?_; rintro e w1 ⟨A, c, rfl, ho, hb1⟩; have hcap := ho.cap; have hc2 : (K : Int) ≤ (c : Int) := by omega)))
      have HOC : Hid (0 < K → ∃ b off, A = some ⟨b, off, none⟩ ∧ b < w1.heap.size ∧ ∀ k, k < K → w1.cell? ⟨b, off + k, none⟩ = some (.int .i64 (((occs s t).getD k 0 : Nat) : Int))) := Lib.hid fun h => by
        obtain ⟨bb, off, e1, e2, e3⟩ := RdI.opened ho.rd (by omega)
        exact ⟨bb, off, e1, e2, fun k hk => e3 k (by omega)⟩
      clear ho w1' w2' w3' w4' hbig2 hP
      go_loopw [12, 43] (fun v12 v43 wr => ∃ k : Nat, k ≤ K ∧ v12 = .int .i64 (lo s t k) ∧ v43 = .int .i64 k ∧ SB w1.heap.size w1.heap.size (R k) wr ∧ Below w1.heap.size w1 wr) (fun _ v43 _ => K - (intOf v43).toNat)
      case atStart => exact ⟨0, Nat.zero_le _, rfl, rfl, by rw [HR0.out]; exact sb_new w1, (Below.refl _ _).alloc (Nat.le_refl _) _⟩
      case round =>
        obtain ⟨k, hkK, rfl, rfl, hsb, hbw⟩ := hrel
        have hbz := hbw.size
        have hRk := HRZ.out k hkK
        by_cases hlt : k < K
        · obtain ⟨bb, off, rfl, hbb, hcc⟩ := HOC.out (by omega)
          obtain ⟨hx1, hx2⟩ := HHI.out k (by omega)
          obtain ⟨hl1, hl2⟩ := HLO.out k (by omega)
          have cj := (hbw.cell (p := ⟨bb, off + k, none⟩) hbb).trans (hcc k hlt)
          rw [hx1] at cj
          have HX2 := Lib.hid hx2
          have HRN := Lib.hid (HRS.out k)
          clear hx1 hx2 hcc
          have hxz : (s.extract (lo s t k) (hi s t k)).size ≤ 400 := by rw [ByteArray.size_extract]; omega
          generalize hxx : s.extract (lo s t k) (hi s t k) = x at *
          generalize lo s t k = a at *
          generalize hi s t k = b at *
          have hij : (k : Int) < (K : Int) := by omega
          have hij0 : (0 : Int) ≤ (k : Int) := by omega
          have g1 : (0 : Int) ≤ (a : Int) := by omega
          have g2 : (a : Int) ≤ (b : Int) := by omega
          have g3 : (b : Int) ≤ (s.size : Int) := by omega
          have hxs : (x ++ u).size ≤ 800 := by rw [ByteArray.size_append]; omega
          obtain ⟨e3, he3⟩ : ∃ e3, e3 = b + t.size := ⟨_, rfl⟩
          have hw3 : IntKind.i64.wrap ((b : Int) + (t.size : Int)) = (e3 : Int) := by rw [IntKind.wrap_i64]; omega
          have HE3 := Lib.hid he3
          clear he3
          have HWS : Hid (Calls Try.prog 41 #[.pointer (some ⟨w1.heap.size, 0, none⟩), .string (x ++ u)] wr fun e w' => e = .returned (.tuple #[.int .i64 (x ++ u).size, .nilIface]) ∧ SB w1.heap.size w1.heap.size (R k ++ (x ++ u)) w' ∧ Below w1.heap.size wr w') := Lib.hid (ws_any _ _ _ _ _ hsb (by omega) hbz)
          have r1 : ¬ 9223372036854775807 < x.size + u.size := by omega
          clear hsb hxz hxs
          go_wp2_with (first | (go_at_call 41; go_must (refine HWS.out.mono ?_; rintro e w3 ⟨rfl, hsb3, hb3⟩)))
          clear r1
          go_roundw
          case rel => exact ⟨k + 1, by omega, by rw [HX2.out, ← HE3.out], by go_num, by rw [HRN.out]; exact hsb3, hbw.trans hb3⟩
          case measure => simp [intOf]; omega
        · obtain rfl : k = K := by omega
          have hz := HLL.out
          clear HLL HHI HLO HOC HRS
          generalize hxx : s.extract (lo s t k) s.size = x at *
          generalize lo s t k = a at *
          have hxz : x.size ≤ 400 := by rw [← hxx, ByteArray.size_extract]; omega
          have g1 : (0 : Int) ≤ (a : Int) := by omega
          have g2 : (a : Int) ≤ (s.size : Int) := by omega
          have HWS : Hid (Calls Try.prog 41 #[.pointer (some ⟨w1.heap.size, 0, none⟩), .string x] wr fun e w' => e = .returned (.tuple #[.int .i64 x.size, .nilIface]) ∧ SB w1.heap.size w1.heap.size (R k ++ x) w' ∧ Below w1.heap.size wr w') := Lib.hid (ws_any _ _ _ _ _ hsb (by omega) hbz)
          clear hsb hxz
          go_wp2_with (first
            | (go_at_call 41; go_must (refine HWS.out.mono ?_; rintro e w3 ⟨rfl, hsb3, hb3⟩))
            | (go_at_call 42; go_must (refine (sb_string _ _ _ _ hsb3 (by have := hb3.size; omega)).mono ?_; rintro e w4 ⟨rfl, hb4⟩)))
          go_ret2
          exact ⟨by rw [HRA.out]; rfl, below_call hb1 ((hbw.trans hb3).trans hb4)⟩
end Go.Proofs.Ytiggholdcebjjaa
