/- The walks of the reference's Replace, of StringsReplace and StringsReplaced. -/
import Derived.Test.YtiggholdcebjjaaS11
namespace Go.Proofs.Ytiggholdcebjjaa
open Go.RowKit
set_option linter.unusedSimpArgs false
set_option linter.unusedVariables false

set_option maxRecDepth 100000 in
set_option maxHeartbeats 8000000 in
theorem rreplace_any (s t u : ByteArray) (most : Int) (w : World) (hs : s.size ≤ 400) (ht : t.size ≤ 100) (hu : u.size ≤ 400) :
    Calls Try.prog 26 #[.string s, .string t, .string u, .int .i64 most] w fun e w' => e = .returned (RV s t u most) ∧ Below w.heap.size w w' := by
  have hN := NO_le s t
  have hK := rpK_le (s := s) (t := t) (most := most)
  have HRO : Hid (∀ W : World, Calls Try.prog 39 #[.string s, .string t] W fun e w' => ∃ A c, e = .returned (.slice A (NO s t) c) ∧ OwR RI 1 w' W.heap.size 3 A (NO s t) c (occs s t) ∧ Below W.heap.size W w') := Lib.hid fun W => roccs_any s t W (by omega) (by omega)
  have hway : (0 ≤ most ∧ most < (NO s t : Int) ∧ most = (rpK s t most : Int)) ∨ (¬ (0 ≤ most) ∧ rpK s t most = NO s t) ∨ (0 ≤ most ∧ ¬ (most < (NO s t : Int)) ∧ rpK s t most = NO s t) := by
    unfold rpK
    split <;> omega
  have HV : Hid (RV s t u most = if 32768 < (rpAll s t u (rpK s t most)).size then .tuple #[.string ByteArray.empty, .int .i64 3] else .tuple #[.string (rpAll s t u (rpK s t most)), .int .i64 0]) := Lib.hid rfl
  generalize RV s t u most = V at *
  obtain ⟨K, hKK⟩ : ∃ K, K = rpK s t most := ⟨_, rfl⟩
  rw [← hKK] at hK hway HV
  clear hKK
  have HLO : Hid (∀ k, k ≤ NO s t → lo s t k ≤ hi s t k ∧ hi s t k ≤ s.size) := Lib.hid fun k hk => ⟨lo_le hk, hi_size hk⟩
  have HHI : Hid (∀ k, k < NO s t → (occs s t).getD k 0 = hi s t k ∧ lo s t (k + 1) = hi s t k + t.size) := Lib.hid fun k hk => ⟨(hi_lt hk).symm, lo_hi hk⟩
  have HLL : Hid (lo s t K ≤ s.size) := Lib.hid (lo_size hK)
  have HRA : Hid (rpAll s t u K = rp s t u K ++ s.extract (lo s t K) s.size) := Lib.hid rfl
  have HRS : Hid (∀ k, rp s t u (k + 1) = rp s t u k ++ s.extract (lo s t k) (hi s t k) ++ u) := Lib.hid fun k => rfl
  have HRZ : Hid (∀ k, k ≤ K → (rp s t u k).size ≤ (rpAll s t u K).size) := Lib.hid fun k hk => rp_le_all hk
  have HR0 : Hid (rp s t u 0 = ByteArray.empty) := Lib.hid rfl
  generalize rpAll s t u K = Z at *
  generalize hR : rp s t u = R at *
  clear hR
  generalize NO s t = N at *
  rcases hway with ⟨q1, q2, rfl⟩ | ⟨q1, rfl⟩ | ⟨q1, q2, rfl⟩
  all_goals
    go_enter Try.func26, Try.ntmps26
    go_wp2_with (first | (go_at_call 39; go_must (refine (HRO.out _).mono ?_; rintro e w1 ⟨A, c, rfl, ho, hb1⟩; have hcap := ho.cap; have hc2 : (K : Int) ≤ (c : Int) := by omega)))
    have HOC : Hid (0 < K → ∃ b off, A = some ⟨b, off, none⟩ ∧ b < w1.heap.size ∧ ∀ k, k < K → w1.cell? ⟨b, off + k, none⟩ = some (.int .i64 (((occs s t).getD k 0 : Nat) : Int))) := Lib.hid fun h => by
      obtain ⟨bb, off, e1, e2, e3⟩ := RdI.opened ho.rd (by omega)
      exact ⟨bb, off, e1, e2, fun k hk => e3 k (by omega)⟩
    clear ho
    go_loop [11, 12, 13] (fun v11 v12 v13 => ∃ k : Nat, k ≤ K ∧ v11 = .string (R k) ∧ v12 = .int .i64 (lo s t k) ∧ v13 = .int .i64 k ∧ (R k).size ≤ 32768) (fun _ _ v13 => K - (intOf v13).toNat)
    case atStart => exact ⟨0, Nat.zero_le _, by rw [HR0.out]; rfl, rfl, rfl, by rw [HR0.out]; decide⟩
    case round =>
      obtain ⟨k, hkK, rfl, rfl, rfl, hrk⟩ := hrel
      by_cases hlt : k < K
      · obtain ⟨bb, off, rfl, hbb, hcc⟩ := HOC.out (by omega)
        obtain ⟨hx1, hx2⟩ := HHI.out k (by omega)
        obtain ⟨hl1, hl2⟩ := HLO.out k (by omega)
        have cj := hcc k hlt
        rw [hx1] at cj
        have HX2 := Lib.hid hx2
        have hry := HRS.out k
        have hyz := HRZ.out (k + 1) (by omega)
        clear hx1 hx2 hcc
        have hxz : (s.extract (lo s t k) (hi s t k)).size ≤ 400 := by rw [ByteArray.size_extract]; omega
        generalize hxx : s.extract (lo s t k) (hi s t k) = x at *
        generalize lo s t k = a at *
        generalize hi s t k = b at *
        obtain ⟨y, hy⟩ : ∃ y, y = R (k + 1) := ⟨_, rfl⟩
        have HY := Lib.hid hy
        rw [← hy] at hry hyz
        clear hy
        have hry2 := hry.symm
        clear hry
        have hij : (k : Int) < (K : Int) := by omega
        have hij0 : (0 : Int) ≤ (k : Int) := by omega
        have g1 : (0 : Int) ≤ (a : Int) := by omega
        have g2 : (a : Int) ≤ (b : Int) := by omega
        have g3 : (b : Int) ≤ (s.size : Int) := by omega
        obtain ⟨e3, he3⟩ : ∃ e3, e3 = b + t.size := ⟨_, rfl⟩
        have hw3 : IntKind.i64.wrap ((b : Int) + (t.size : Int)) = (e3 : Int) := by rw [IntKind.wrap_i64]; omega
        have HE3 := Lib.hid he3
        clear he3
        have r1 : ¬ 9223372036854775807 < (R k).size + x.size := by omega
        have r2 : ¬ 9223372036854775807 < (R k ++ x).size + u.size := by rw [ByteArray.size_append]; omega
        have r2' : ¬ 9223372036854775807 < (R k).size + x.size + u.size := by omega
        clear hxz
        by_cases hbg : 32768 < y.size
        · have hbg2 : (32768 : Int) < (y.size : Int) := by omega
          have HB := Lib.hid (show 32768 < Z.size by omega)
          clear hbg hyz
          go_wp2
          go_ret2
          exact ⟨by rw [HV.out, if_pos HB.out]; rfl, hb1⟩
        · have hbg2 : ¬ (32768 : Int) < (y.size : Int) := by omega
          clear hyz
          go_wp2
          clear r1 r2 r2' hry2
          go_round
          case rel => exact ⟨k + 1, by omega, by rw [← HY.out], by rw [HX2.out, ← HE3.out], by go_num, by rw [← HY.out]; omega⟩
          case measure => simp [intOf]; omega
      · obtain rfl : k = K := by omega
        have hz := HLL.out
        have hry2 := HRA.out.symm
        clear HLL HHI HLO HOC HRS
        have hxz : (s.extract (lo s t k) s.size).size ≤ 400 := by rw [ByteArray.size_extract]; omega
        generalize hxx : s.extract (lo s t k) s.size = x at *
        generalize lo s t k = a at *
        have g1 : (0 : Int) ≤ (a : Int) := by omega
        have g2 : (a : Int) ≤ (s.size : Int) := by omega
        have r1 : ¬ 9223372036854775807 < (R k).size + x.size := by omega
        clear hxz HRA
        by_cases hbg : 32768 < Z.size
        · have hbg2 : (32768 : Int) < (Z.size : Int) := by omega
          have HB := Lib.hid hbg
          clear hbg
          go_wp2
          go_ret2
          exact ⟨by rw [HV.out, if_pos HB.out]; rfl, hb1⟩
        · have hbg2 : ¬ (32768 : Int) < (Z.size : Int) := by omega
          have HB := Lib.hid hbg
          clear hbg
          go_wp2
          go_ret2
          exact ⟨by rw [HV.out, if_neg HB.out]; rfl, hb1⟩

theorem RV_form (s t u : ByteArray) (most : Int) : ∃ (z : ByteArray) (c : Int), RV s t u most = .tuple #[.string z, .int .i64 c] := by
  unfold RV
  split
  · exact ⟨_, _, rfl⟩
  · exact ⟨_, _, rfl⟩

set_option maxHeartbeats 4000000 in
theorem lawreplace_walk (s t u : ByteArray) (most m : Int) (w : World) (hm : w.cell? ⟨0, 0, none⟩ = some (.int .i64 m)) :
    Calls Try.prog 9 #[.string s, .string t, .string u, .int .i64 most] w fun e w' => e = .returned (.bool true) ∧ Below w.heap.size w w' := by
  have h0 : 0 < w.heap.size := World.block_lt_of_cell? _ _ hm
  have hx := Below.refl w.heap.size w
  by_cases h1 : (400 : Int) < (s.size : Int)
  · go_enter Try.func9, Try.ntmps9
    go_wp2_with (first | (go_at_call 13; ((with_reducible refine (known_any m _ ((hx.cell (p := ⟨0, 0, none⟩) h0).trans hm)).mono ?_); rintro e wn ⟨rfl, hbn⟩; replace hx := below_call hx hbn; clear hbn)))
    go_ret
    exact ⟨rfl, hx⟩
  by_cases h2 : (100 : Int) < (t.size : Int)
  · go_enter Try.func9, Try.ntmps9
    go_wp2_with (first | (go_at_call 13; ((with_reducible refine (known_any m _ ((hx.cell (p := ⟨0, 0, none⟩) h0).trans hm)).mono ?_); rintro e wn ⟨rfl, hbn⟩; replace hx := below_call hx hbn; clear hbn)))
    go_ret
    exact ⟨rfl, hx⟩
  by_cases h3 : (400 : Int) < (u.size : Int)
  · go_enter Try.func9, Try.ntmps9
    go_wp2_with (first | (go_at_call 13; ((with_reducible refine (known_any m _ ((hx.cell (p := ⟨0, 0, none⟩) h0).trans hm)).mono ?_); rintro e wn ⟨rfl, hbn⟩; replace hx := below_call hx hbn; clear hbn)))
    go_ret
    exact ⟨rfl, hx⟩
  obtain ⟨z, c, hV⟩ := RV_form s t u most
  have HA : Hid (∀ W, W.cell? ⟨0, 0, none⟩ = some (.int .i64 m) → Calls Try.prog 25 #[.string s, .string t, .string u, .int .i64 most] W fun e w' => e = .returned (.tuple #[.string z, .int .i64 c]) ∧ Below W.heap.size W w') := Lib.hid fun W hW => by
    rw [← hV]; exact replace_any s t u most m W (by omega) (by omega) (by omega) hW
  have HB : Hid (∀ W, Calls Try.prog 26 #[.string s, .string t, .string u, .int .i64 most] W fun e w' => e = .returned (.tuple #[.string z, .int .i64 c]) ∧ Below W.heap.size W w') := Lib.hid fun W => by
    rw [← hV]; exact rreplace_any s t u most W (by omega) (by omega) (by omega)
  clear hV
  go_enter Try.func9, Try.ntmps9
  go_wp2_with (first
    | (go_at_call 25; ((with_reducible refine (HA.out _ ((hx.cell (p := ⟨0, 0, none⟩) h0).trans hm)).mono ?_); rintro e wn ⟨rfl, hbn⟩; replace hx := below_call hx hbn; clear hbn))
    | (go_at_call 26; ((with_reducible refine (HB.out _).mono ?_); rintro e wn ⟨rfl, hbn⟩; replace hx := below_call hx hbn; clear hbn))
    | (go_at_call 13; ((with_reducible refine (known_any m _ ((hx.cell (p := ⟨0, 0, none⟩) h0).trans hm)).mono ?_); rintro e wn ⟨rfl, hbn⟩; replace hx := below_call hx hbn; clear hbn)))
  go_ret
  exact ⟨rfl, hx⟩

set_option maxHeartbeats 4000000 in
theorem lawreplaced_walk (s t u : ByteArray) (m : Int) (w : World) (hm : w.cell? ⟨0, 0, none⟩ = some (.int .i64 m)) :
    Calls Try.prog 10 #[.string s, .string t, .string u] w fun e w' => e = .returned (.bool true) ∧ Below w.heap.size w w' := by
  have h0 : 0 < w.heap.size := World.block_lt_of_cell? _ _ hm
  have hx := Below.refl w.heap.size w
  by_cases h1 : (300 : Int) < (s.size : Int)
  · go_enter Try.func10, Try.ntmps10
    go_wp2_with (first | (go_at_call 13; ((with_reducible refine (known_any m _ ((hx.cell (p := ⟨0, 0, none⟩) h0).trans hm)).mono ?_); rintro e wn ⟨rfl, hbn⟩; replace hx := below_call hx hbn; clear hbn)))
    go_ret
    exact ⟨rfl, hx⟩
  by_cases h2 : (50 : Int) < (t.size : Int)
  · go_enter Try.func10, Try.ntmps10
    go_wp2_with (first | (go_at_call 13; ((with_reducible refine (known_any m _ ((hx.cell (p := ⟨0, 0, none⟩) h0).trans hm)).mono ?_); rintro e wn ⟨rfl, hbn⟩; replace hx := below_call hx hbn; clear hbn)))
    go_ret
    exact ⟨rfl, hx⟩
  by_cases h3 : (50 : Int) < (u.size : Int)
  · go_enter Try.func10, Try.ntmps10
    go_wp2_with (first | (go_at_call 13; ((with_reducible refine (known_any m _ ((hx.cell (p := ⟨0, 0, none⟩) h0).trans hm)).mono ?_); rintro e wn ⟨rfl, hbn⟩; replace hx := below_call hx hbn; clear hbn)))
    go_ret
    exact ⟨rfl, hx⟩
  have hNS := NO_le s t
  have hsz := size_rpAll_int (s := s) (t := t) (u := u) (Nat.le_refl (NO s t))
  obtain ⟨P, hP, hP1, hP2⟩ := prod_bd (K := NO s t) (a := u.size) (b := t.size) (by omega) (by omega) (by omega)
  have hP3 : P ≤ 15050 := by
    rw [← hP, Int.mul_sub]
    have e1 : NO s t * u.size ≤ 301 * 50 := Nat.mul_le_mul (by omega) (by omega)
    have e3 : (NO s t : Int) * (u.size : Int) ≤ 15050 := by rw [← Int.natCast_mul]; omega
    have e2 : (0 : Int) ≤ (NO s t : Int) * (t.size : Int) := by rw [← Int.natCast_mul]; omega
    omega
  rw [hP] at hsz
  have HA : Hid (∀ W, W.cell? ⟨0, 0, none⟩ = some (.int .i64 m) → Calls Try.prog 25 #[.string s, .string t, .string u, .int .i64 (-1)] W fun e w' => e = .returned (.tuple #[.string (rpAll s t u (NO s t)), .int .i64 0]) ∧ Below W.heap.size W w') := Lib.hid fun W hW => by
    have := replace_any s t u (-1) m W (by omega) (by omega) (by omega) hW
    unfold RV at this
    rwa [rpK_neg, if_neg (by omega)] at this
  have HB : Hid (∀ W, W.cell? ⟨0, 0, none⟩ = some (.int .i64 m) → Calls Try.prog 25 #[.string s, .string t, .string t, .int .i64 (-1)] W fun e w' => e = .returned (.tuple #[.string s, .int .i64 0]) ∧ Below W.heap.size W w') := Lib.hid fun W hW => by
    have := replace_any s t t (-1) m W (by omega) (by omega) (by omega) hW
    unfold RV at this
    rwa [rpK_neg, rpAll_self (Nat.le_refl _), if_neg (by omega)] at this
  have HC : Hid (∀ W, W.cell? ⟨0, 0, none⟩ = some (.int .i64 m) → Calls Try.prog 25 #[.string s, .string t, .string u, .int .i64 0] W fun e w' => e = .returned (.tuple #[.string s, .int .i64 0]) ∧ Below W.heap.size W w') := Lib.hid fun W hW => by
    have := replace_any s t u 0 m W (by omega) (by omega) (by omega) hW
    unfold RV at this
    rwa [rpK_zero, rpAll_zero, if_neg (by omega)] at this
  have HD : Hid (∀ W, W.cell? ⟨0, 0, none⟩ = some (.int .i64 m) → Calls Try.prog 20 #[.string s, .string t] W fun e w' => e = .returned (.int .i64 (NO s t : Int)) ∧ Below W.heap.size W w') := Lib.hid fun W hW => count_any s t m W (by omega) (by omega) hW
  generalize rpAll s t u (NO s t) = Z at *
  generalize NO s t = N at *
  have w1' : IntKind.i64.wrap ((u.size : Int) - (t.size : Int)) = (u.size : Int) - (t.size : Int) := by rw [IntKind.wrap_i64]; omega
  have w2' : IntKind.i64.wrap P = P := by rw [IntKind.wrap_i64]; omega
  have w3' : IntKind.i64.wrap ((s.size : Int) + P) = (Z.size : Int) := by rw [IntKind.wrap_i64]; omega
  have w4' : (s.size : Int) + P = (Z.size : Int) := hsz.symm
  clear hsz
  go_enter Try.func10, Try.ntmps10
  go_wp2_with (first
    | (go_at_call 25; ((with_reducible refine (HA.out _ ((hx.cell (p := ⟨0, 0, none⟩) h0).trans hm)).mono ?_); rintro e wn ⟨rfl, hbn⟩; replace hx := below_call hx hbn; clear hbn))
    | (go_at_call 25; ((with_reducible refine (HB.out _ ((hx.cell (p := ⟨0, 0, none⟩) h0).trans hm)).mono ?_); rintro e wn ⟨rfl, hbn⟩; replace hx := below_call hx hbn; clear hbn))
    | (go_at_call 25; ((with_reducible refine (HC.out _ ((hx.cell (p := ⟨0, 0, none⟩) h0).trans hm)).mono ?_); rintro e wn ⟨rfl, hbn⟩; replace hx := below_call hx hbn; clear hbn))
    | (go_at_call 20; ((with_reducible refine (HD.out _ ((hx.cell (p := ⟨0, 0, none⟩) h0).trans hm)).mono ?_); rintro e wn ⟨rfl, hbn⟩; replace hx := below_call hx hbn; clear hbn))
    | (go_at_call 13; ((with_reducible refine (known_any m _ ((hx.cell (p := ⟨0, 0, none⟩) h0).trans hm)).mono ?_); rintro e wn ⟨rfl, hbn⟩; replace hx := below_call hx hbn; clear hbn)))
  go_ret
  exact ⟨rfl, hx⟩
end Go.Proofs.Ytiggholdcebjjaa
