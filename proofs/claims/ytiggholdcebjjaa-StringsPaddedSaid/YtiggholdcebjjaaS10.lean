/- The walks of StringsWithin, StringsPart and StringsParts. -/
import Derived.Test.YtiggholdcebjjaaS9
namespace Go.Proofs.Ytiggholdcebjjaa
open Go.RowKit
set_option linter.unusedSimpArgs false
set_option linter.unusedVariables false

set_option maxHeartbeats 4000000 in
theorem lawwithin_walk (a b c : ByteArray) (m : Int) (w : World) (hm : w.cell? ⟨0, 0, none⟩ = some (.int .i64 m)) :
    Calls Try.prog 6 #[.string a, .string b, .string c] w fun e w' => e = .returned (.bool true) ∧ Below w.heap.size w w' := by
  have h0 : 0 < w.heap.size := World.block_lt_of_cell? _ _ hm
  by_cases h1 : (100 : Int) < (a.size : Int)
  · go_enter Try.func6, Try.ntmps6
    go_wp2_with (first | (go_at_call 13; go_must (refine (known_any m _ hm).mono ?_; rintro e w1 ⟨rfl, hb1⟩)))
    go_ret
    exact ⟨rfl, hb1⟩
  by_cases h2 : (100 : Int) < (b.size : Int)
  · go_enter Try.func6, Try.ntmps6
    go_wp2_with (first | (go_at_call 13; go_must (refine (known_any m _ hm).mono ?_; rintro e w1 ⟨rfl, hb1⟩)))
    go_ret
    exact ⟨rfl, hb1⟩
  by_cases h3 : (100 : Int) < (c.size : Int)
  · go_enter Try.func6, Try.ntmps6
    go_wp2_with (first | (go_at_call 13; go_must (refine (known_any m _ hm).mono ?_; rintro e w1 ⟨rfl, hb1⟩)))
    go_ret
    exact ⟨rfl, hb1⟩
  by_cases ha : Asc a
  case neg =>
    have HP := Lib.hid fun W => plain_no a W (by omega) ha
    clear ha
    go_enter Try.func6, Try.ntmps6
    go_wp2_with (first
      | (go_at_call 22; ((with_reducible refine (HP.out _).mono ?_); rintro e w2 ⟨rfl, rfl⟩))
      | (go_at_call 13; go_must (refine (known_any m _ hm).mono ?_; rintro e w1 ⟨rfl, hb1⟩)))
    go_ret
    exact ⟨rfl, hb1⟩
  have HPa := Lib.hid fun W => plain_yes a W (by omega) ha
  by_cases hb : Asc b
  case neg =>
    have HP := Lib.hid fun W => plain_no b W (by omega) hb
    clear ha hb
    go_enter Try.func6, Try.ntmps6
    go_wp2_with (first
      | (go_at_call 22; ((with_reducible refine (HPa.out _).mono ?_); rintro e w2 ⟨rfl, rfl⟩))
      | (go_at_call 22; ((with_reducible refine (HP.out _).mono ?_); rintro e w2 ⟨rfl, rfl⟩))
      | (go_at_call 13; go_must (refine (known_any m _ hm).mono ?_; rintro e w1 ⟨rfl, hb1⟩)))
    go_ret
    exact ⟨rfl, hb1⟩
  have HPb := Lib.hid fun W => plain_yes b W (by omega) hb
  by_cases hc : Asc c
  case neg =>
    have HP := Lib.hid fun W => plain_no c W (by omega) hc
    clear ha hb hc
    go_enter Try.func6, Try.ntmps6
    go_wp2_with (first
      | (go_at_call 22; ((with_reducible refine (HPa.out _).mono ?_); rintro e w2 ⟨rfl, rfl⟩))
      | (go_at_call 22; ((with_reducible refine (HPb.out _).mono ?_); rintro e w2 ⟨rfl, rfl⟩))
      | (go_at_call 22; ((with_reducible refine (HP.out _).mono ?_); rintro e w2 ⟨rfl, rfl⟩))
      | (go_at_call 13; go_must (refine (known_any m _ hm).mono ?_; rintro e w1 ⟨rfl, hb1⟩)))
    go_ret
    exact ⟨rfl, hb1⟩
  have HPc := Lib.hid fun W => plain_yes c W (by omega) hc
  have hz : (a ++ b ++ c).size = a.size + b.size + c.size := by simp [ByteArray.size_append]
  obtain ⟨p, hp1, hp2⟩ := within_place ha hb hc
  have hf := within_from ha hb hc
  have hcn := within_count ha hb hc
  have hna := asc_NR ha
  have HL : Hid (∀ W, Calls Try.prog 14 #[.string a] W fun e w' => e = .returned (.int .i64 (a.size : Int)) ∧ Below W.heap.size W w') := Lib.hid fun W => by
    have := length_any a W (by omega)
    rwa [hna] at this
  have HF0 : Hid (∀ W, W.cell? ⟨0, 0, none⟩ = some (.int .i64 m) → Calls Try.prog 18 #[.string (a ++ b ++ c), .string b, .int .i64 0] W fun e w' => e = .returned (.int .i64 (p : Int)) ∧ Below W.heap.size W w') := Lib.hid fun W hW => by
    have := find_any (a ++ b ++ c) b 0 m W (by omega) hW
    rwa [show (0 : Int).toNat = 0 from rfl, hp1] at this
  have HF1 : Hid (∀ W, W.cell? ⟨0, 0, none⟩ = some (.int .i64 m) → Calls Try.prog 18 #[.string (a ++ b ++ c), .string b, .int .i64 (a.size : Int)] W fun e w' => e = .returned (.int .i64 (a.size : Int)) ∧ Below W.heap.size W w') := Lib.hid fun W hW => by
    have := find_any (a ++ b ++ c) b (a.size : Int) m W (by omega) hW
    rwa [show ((a.size : Int)).toNat = a.size by omega, hf] at this
  have HC : Hid (∀ W, W.cell? ⟨0, 0, none⟩ = some (.int .i64 m) → Calls Try.prog 20 #[.string (a ++ b ++ c), .string b] W fun e w' => e = .returned (.int .i64 ((occs (a ++ b ++ c) b).length : Int)) ∧ Below W.heap.size W w') := Lib.hid fun W hW => count_any (a ++ b ++ c) b m W (by omega) (by omega) hW
  have q1 : (0 : Int) ≤ (p : Int) := by omega
  have q2 : (p : Int) ≤ (a.size : Int) := by omega
  clear hp1 hf hna ha hb hc hz hp2
  generalize (occs (a ++ b ++ c) b).length = K at *
  have hx := Below.refl w.heap.size w
  by_cases hbe : b = ByteArray.empty
  · have hK : K = 0 := hcn.2 (by rw [hbe]; rfl)
    subst hK
    have hb0 : b.toList = [] := by rw [hbe, ByteArray.toList_eq]; rfl
    have hb1 : b.toList.isEmpty = true := by rw [hb0]; rfl
    clear hcn hbe
    go_enter Try.func6, Try.ntmps6
    go_wp2_with (first
      | (go_at_call 22; ((with_reducible refine (HPa.out _).mono ?_); rintro e w2 ⟨rfl, rfl⟩))
      | (go_at_call 22; ((with_reducible refine (HPb.out _).mono ?_); rintro e w2 ⟨rfl, rfl⟩))
      | (go_at_call 22; ((with_reducible refine (HPc.out _).mono ?_); rintro e w2 ⟨rfl, rfl⟩))
      | (go_at_call 14; ((with_reducible refine (HL.out _).mono ?_); rintro e wn ⟨rfl, hbn⟩; replace hx := below_call hx hbn; clear hbn))
      | (go_at_call 18; ((with_reducible refine (HF0.out _ ((hx.cell (p := ⟨0, 0, none⟩) h0).trans hm)).mono ?_); rintro e wn ⟨rfl, hbn⟩; replace hx := below_call hx hbn; clear hbn))
      | (go_at_call 18; ((with_reducible refine (HF1.out _ ((hx.cell (p := ⟨0, 0, none⟩) h0).trans hm)).mono ?_); rintro e wn ⟨rfl, hbn⟩; replace hx := below_call hx hbn; clear hbn))
      | (go_at_call 20; ((with_reducible refine (HC.out _ ((hx.cell (p := ⟨0, 0, none⟩) h0).trans hm)).mono ?_); rintro e wn ⟨rfl, hbn⟩; replace hx := below_call hx hbn; clear hbn))
      | (go_at_call 13; ((with_reducible refine (known_any m _ ((hx.cell (p := ⟨0, 0, none⟩) h0).trans hm)).mono ?_); rintro e wn ⟨rfl, hbn⟩; replace hx := below_call hx hbn; clear hbn)))
    go_ret
    exact ⟨rfl, hx⟩
  · have hbz : b.size ≠ 0 := fun h => hbe (by rcases b with ⟨⟨l⟩⟩; simp [ByteArray.size] at h; subst h; rfl)
    have hK : K ≠ 0 := fun h => hbz (hcn.1 h)
    have hK1 : ((K : Int) == 0) = false := by simp; omega
    have hb1 : b.toList.isEmpty = false := by
      rw [Bool.eq_false_iff]
      intro h
      rw [List.isEmpty_iff, ByteArray.toList_eq] at h
      exact hbz (by have : b.data.toList.length = 0 := by rw [h]; rfl
                    simpa using this)
    clear hcn hbe hbz hK
    go_enter Try.func6, Try.ntmps6
    go_wp2_with (first
      | (go_at_call 22; ((with_reducible refine (HPa.out _).mono ?_); rintro e w2 ⟨rfl, rfl⟩))
      | (go_at_call 22; ((with_reducible refine (HPb.out _).mono ?_); rintro e w2 ⟨rfl, rfl⟩))
      | (go_at_call 22; ((with_reducible refine (HPc.out _).mono ?_); rintro e w2 ⟨rfl, rfl⟩))
      | (go_at_call 14; ((with_reducible refine (HL.out _).mono ?_); rintro e wn ⟨rfl, hbn⟩; replace hx := below_call hx hbn; clear hbn))
      | (go_at_call 18; ((with_reducible refine (HF0.out _ ((hx.cell (p := ⟨0, 0, none⟩) h0).trans hm)).mono ?_); rintro e wn ⟨rfl, hbn⟩; replace hx := below_call hx hbn; clear hbn))
      | (go_at_call 18; ((with_reducible refine (HF1.out _ ((hx.cell (p := ⟨0, 0, none⟩) h0).trans hm)).mono ?_); rintro e wn ⟨rfl, hbn⟩; replace hx := below_call hx hbn; clear hbn))
      | (go_at_call 20; ((with_reducible refine (HC.out _ ((hx.cell (p := ⟨0, 0, none⟩) h0).trans hm)).mono ?_); rintro e wn ⟨rfl, hbn⟩; replace hx := below_call hx hbn; clear hbn))
      | (go_at_call 13; ((with_reducible refine (known_any m _ ((hx.cell (p := ⟨0, 0, none⟩) h0).trans hm)).mono ?_); rintro e wn ⟨rfl, hbn⟩; replace hx := below_call hx hbn; clear hbn)))
    go_ret
    exact ⟨rfl, hx⟩

set_option maxHeartbeats 4000000 in
theorem lawpart_walk (s t : ByteArray) (I m : Int) (w : World) (hI : -9223372036854775808 ≤ I) (hm : w.cell? ⟨0, 0, none⟩ = some (.int .i64 m)) :
    Calls Try.prog 7 #[.string s, .string t, .int .i64 I] w fun e w' => e = .returned (.bool true) ∧ Below w.heap.size w w' := by
  have h0 : 0 < w.heap.size := World.block_lt_of_cell? _ _ hm
  have hx := Below.refl w.heap.size w
  by_cases h1 : (400 : Int) < (s.size : Int)
  · go_enter Try.func7, Try.ntmps7
    go_wp2_with (first | (go_at_call 13; ((with_reducible refine (known_any m _ ((hx.cell (p := ⟨0, 0, none⟩) h0).trans hm)).mono ?_); rintro e wn ⟨rfl, hbn⟩; replace hx := below_call hx hbn; clear hbn)))
    go_ret
    exact ⟨rfl, hx⟩
  by_cases h2 : (50 : Int) < (t.size : Int)
  · go_enter Try.func7, Try.ntmps7
    go_wp2_with (first | (go_at_call 13; ((with_reducible refine (known_any m _ ((hx.cell (p := ⟨0, 0, none⟩) h0).trans hm)).mono ?_); rintro e wn ⟨rfl, hbn⟩; replace hx := below_call hx hbn; clear hbn)))
    go_ret
    exact ⟨rfl, hx⟩
  have hsz : s.size ≤ 4294967280 := by omega
  have htz : t.size ≤ 4294967280 := by omega
  obtain ⟨J, hJ⟩ : ∃ J, I.tmod 9 = J := ⟨_, rfl⟩
  have hJ9 : -9223372036854775808 ≤ J := by
    rw [← hJ]
    have := Int.tmod_lt_of_pos I (show (0 : Int) < 9 by omega)
    have h3 := Int.lt_tmod_of_pos I (show (0 : Int) < 9 by omega)
    omega
  have hJ2 : IntKind.i64.wrap J = J := by
    rw [IntKind.wrap_i64, ← hJ]
    have := Int.tmod_lt_of_pos I (show (0 : Int) < 9 by omega)
    have h3 := Int.lt_tmod_of_pos I (show (0 : Int) < 9 by omega)
    omega
  go_enter Try.func7, Try.ntmps7
  go_wp2_with (first
    | (go_at_call 23; ((with_reducible refine (part_any s t _ m _ hsz htz ((hx.cell (p := ⟨0, 0, none⟩) h0).trans hm) (by assumption)).mono ?_); rintro e wn ⟨rfl, hbn⟩; replace hx := below_call hx hbn; clear hbn))
    | (go_at_call 24; ((with_reducible refine (rpart_any s t _ _ hsz htz (by assumption)).mono ?_); rintro e wn ⟨rfl, hbn⟩; replace hx := below_call hx hbn; clear hbn))
    | (go_at_call 13; ((with_reducible refine (known_any m _ ((hx.cell (p := ⟨0, 0, none⟩) h0).trans hm)).mono ?_); rintro e wn ⟨rfl, hbn⟩; replace hx := below_call hx hbn; clear hbn)))
  go_ret
  exact ⟨rfl, hx⟩

theorem PT_front {s t : ByteArray} {k : Nat} (h : k ≤ NO s t) : PT s t k = part s t k := by
  unfold PT
  rw [if_neg (by omega), if_neg (by omega), Int.toNat_natCast]
theorem PT_back {s t : ByteArray} {k : Nat} (h : k ≤ NO s t) : PT s t (-1 - (k : Int)) = part s t (NO s t - k) := by
  unfold PT
  rw [if_pos (by omega), if_neg (by omega), show (-1 - (k : Int) + ((NO s t : Int) + 1)).toNat = NO s t - k by omega]
theorem PT_past {s t : ByteArray} : PT s t ((NO s t : Int) + 1) = ByteArray.empty := by
  unfold PT
  rw [if_neg (by omega), if_pos (by omega)]

set_option maxHeartbeats 4000000 in
theorem lawparts_walk (s t : ByteArray) (m : Int) (w : World) (hm : w.cell? ⟨0, 0, none⟩ = some (.int .i64 m)) :
    Calls Try.prog 8 #[.string s, .string t] w fun e w' => e = .returned (.bool true) ∧ Below w.heap.size w w' := by
  have h0 : 0 < w.heap.size := World.block_lt_of_cell? _ _ hm
  have hx := Below.refl w.heap.size w
  by_cases h1 : (200 : Int) < (s.size : Int)
  · go_enter Try.func8, Try.ntmps8
    go_wp2_with (first | (go_at_call 13; ((with_reducible refine (known_any m _ ((hx.cell (p := ⟨0, 0, none⟩) h0).trans hm)).mono ?_); rintro e wn ⟨rfl, hbn⟩; replace hx := below_call hx hbn; clear hbn)))
    go_ret
    exact ⟨rfl, hx⟩
  by_cases h2 : (20 : Int) < (t.size : Int)
  · go_enter Try.func8, Try.ntmps8
    go_wp2_with (first | (go_at_call 13; ((with_reducible refine (known_any m _ ((hx.cell (p := ⟨0, 0, none⟩) h0).trans hm)).mono ?_); rintro e wn ⟨rfl, hbn⟩; replace hx := below_call hx hbn; clear hbn)))
    go_ret
    exact ⟨rfl, hx⟩
  have hsz : s.size ≤ 4294967280 := by omega
  have htz : t.size ≤ 4294967280 := by omega
  have hNS := NO_le s t
  obtain ⟨N, hN⟩ : ∃ N, N = NO s t := ⟨_, rfl⟩
  obtain ⟨F, hF⟩ : ∃ F : Nat → ByteArray, F = fun k => s.extract 0 (hi s t k) := ⟨_, rfl⟩
  obtain ⟨G, hG⟩ : ∃ G : Nat → ByteArray, G = fun k => s.extract (lo s t (NO s t - k)) s.size := ⟨_, rfl⟩
  have HC : Hid (∀ W, W.cell? ⟨0, 0, none⟩ = some (.int .i64 m) → Calls Try.prog 20 #[.string s, .string t] W fun e w' => e = .returned (.int .i64 (N : Int)) ∧ Below W.heap.size W w') := Lib.hid fun W hW => by
    rw [hN]; exact count_any s t m W (by omega) (by omega) hW
  have HP0 : Hid (∀ W, W.cell? ⟨0, 0, none⟩ = some (.int .i64 m) → Calls Try.prog 23 #[.string s, .string t, .int .i64 0] W fun e w' => e = .returned (.string (F 0)) ∧ Below W.heap.size W w') := Lib.hid fun W hW => by
    have := part_any s t ((0 : Nat) : Int) m W hsz htz hW (by omega)
    rw [PT_front (Nat.zero_le _)] at this
    rw [hF]; exact this
  have HP1 : Hid (∀ W, W.cell? ⟨0, 0, none⟩ = some (.int .i64 m) → Calls Try.prog 23 #[.string s, .string t, .int .i64 (-1)] W fun e w' => e = .returned (.string (G 0)) ∧ Below W.heap.size W w') := Lib.hid fun W hW => by
    have := part_any s t (-1 - ((0 : Nat) : Int)) m W hsz htz hW (by omega)
    rw [PT_back (Nat.zero_le _), Nat.sub_zero, part_last] at this
    rw [hG]; exact this
  have HP2 : Hid (∀ W, W.cell? ⟨0, 0, none⟩ = some (.int .i64 m) → Calls Try.prog 23 #[.string s, .string t, .int .i64 ((N : Int) + 1)] W fun e w' => e = .returned (.string ByteArray.empty) ∧ Below W.heap.size W w') := Lib.hid fun W hW => by
    have := part_any s t ((NO s t : Int) + 1) m W hsz htz hW (by omega)
    rw [PT_past] at this
    rw [hN]; exact this
  have HPF : Hid (∀ (k : Nat), k < N → ∃ z, (∀ W, W.cell? ⟨0, 0, none⟩ = some (.int .i64 m) → Calls Try.prog 23 #[.string s, .string t, .int .i64 ((k : Int) + 1)] W fun e w' => e = .returned (.string z) ∧ Below W.heap.size W w') ∧ F k ++ t ++ z = F (k + 1)) := Lib.hid fun k hk => by
    refine ⟨part s t (k + 1), fun W hW => ?_, ?_⟩
    · have := part_any s t ((k + 1 : Nat) : Int) m W hsz htz hW (by omega)
      rw [PT_front (by omega)] at this
      rwa [show ((k + 1 : Nat) : Int) = (k : Int) + 1 by omega] at this
    · rw [hF]; exact parts_front (by omega)
  have HPB : Hid (∀ (k : Nat), k < N → ∃ z, (∀ W, W.cell? ⟨0, 0, none⟩ = some (.int .i64 m) → Calls Try.prog 23 #[.string s, .string t, .int .i64 (-1 - ((k : Int) + 1))] W fun e w' => e = .returned (.string z) ∧ Below W.heap.size W w') ∧ z ++ t ++ G k = G (k + 1)) := Lib.hid fun k hk => by
    refine ⟨part s t (NO s t - (k + 1)), fun W hW => ?_, ?_⟩
    · have := part_any s t (-1 - ((k + 1 : Nat) : Int)) m W hsz htz hW (by omega)
      rw [PT_back (by omega)] at this
      rwa [show ((k + 1 : Nat) : Int) = (k : Int) + 1 by omega] at this
    · rw [hG]
      have := parts_back (s := s) (t := t) (i := NO s t - (k + 1)) (by omega)
      rwa [show NO s t - (k + 1) + 1 = NO s t - k by omega] at this
  have HFN : Hid (F N = s) := Lib.hid (by rw [hF, hN]; show s.extract 0 (hi s t (NO s t)) = s; rw [hi_last, ext_whole])
  have HGN : Hid (G N = s) := Lib.hid (by rw [hG, hN]; show s.extract (lo s t (NO s t - NO s t)) s.size = s; rw [Nat.sub_self, lo_zero, ext_whole])
  have HFS : Hid (∀ k, (F k).size ≤ s.size) := Lib.hid fun k => by rw [hF]; show (s.extract _ _).size ≤ _; rw [ByteArray.size_extract]; omega
  have HGS : Hid (∀ k, (G k).size ≤ s.size) := Lib.hid fun k => by rw [hG]; show (s.extract _ _).size ≤ _; rw [ByteArray.size_extract]; omega
  clear hF hG
  have hNz : N ≤ s.size + 1 := by omega
  clear hN hNS
  go_enter Try.func8, Try.ntmps8
  go_wp2_with (first
    | (go_at_call 20; ((with_reducible refine (HC.out _ ((hx.cell (p := ⟨0, 0, none⟩) h0).trans hm)).mono ?_); rintro e wn ⟨rfl, hbn⟩; replace hx := below_call hx hbn; clear hbn))
    | (go_at_call 23; ((with_reducible refine (HP0.out _ ((hx.cell (p := ⟨0, 0, none⟩) h0).trans hm)).mono ?_); rintro e wn ⟨rfl, hbn⟩; replace hx := below_call hx hbn; clear hbn))
    | (go_at_call 23; ((with_reducible refine (HP1.out _ ((hx.cell (p := ⟨0, 0, none⟩) h0).trans hm)).mono ?_); rintro e wn ⟨rfl, hbn⟩; replace hx := below_call hx hbn; clear hbn)))
  go_loopw [6, 7, 8] (fun a b i wr => ∃ k : Nat, k ≤ N ∧ i = .int .i64 ((k : Int) + 1) ∧ a = .string (F k) ∧ b = .string (G k) ∧ Below w.heap.size w wr) (fun _ _ i _ => N + 1 - (intOf i).toNat)
  case atStart => exact ⟨0, Nat.zero_le _, rfl, rfl, rfl, hx⟩
  case round =>
    clear hx
    obtain ⟨k, hk, rfl, rfl, rfl, hx⟩ := hrel
    by_cases hlt : k < N
    · have hlt2 : (k : Int) + 1 ≤ (N : Int) := by omega
      obtain ⟨y, HY, hy⟩ := HPF.out k hlt
      obtain ⟨z, HZ, hz⟩ := HPB.out k hlt
      have HY2 := Lib.hid HY
      have HZ2 := Lib.hid HZ
      clear HY HZ
      have e1 : IntKind.i64.wrap (-1 - ((k : Int) + 1)) = -1 - ((k : Int) + 1) := by rw [IntKind.wrap_i64]; omega
      have q1 := HFS.out (k + 1)
      have q2 := HGS.out (k + 1)
      have q3 := congrArg ByteArray.size hy
      have q4 := congrArg ByteArray.size hz
      simp only [ByteArray.size_append] at q3 q4
      have r1 : ¬ 9223372036854775807 < (F k).size + t.size := by omega
      have r2 : ¬ 9223372036854775807 < (F k ++ t).size + y.size := by rw [ByteArray.size_append]; omega
      have r2' : ¬ 9223372036854775807 < (F k).size + t.size + y.size := by omega
      have r3 : ¬ 9223372036854775807 < z.size + t.size := by omega
      have r4 : ¬ 9223372036854775807 < (z ++ t).size + (G k).size := by rw [ByteArray.size_append]; omega
      have r4' : ¬ 9223372036854775807 < z.size + t.size + (G k).size := by omega
      clear q1 q2 q3 q4
      go_wp2_with (first
        | (go_at_call 23; ((with_reducible refine (HY2.out _ ((hx.cell (p := ⟨0, 0, none⟩) h0).trans hm)).mono ?_); rintro e wn ⟨rfl, hbn⟩; replace hx := below_call hx hbn; clear hbn))
        | (go_at_call 23; ((with_reducible refine (HZ2.out _ ((hx.cell (p := ⟨0, 0, none⟩) h0).trans hm)).mono ?_); rintro e wn ⟨rfl, hbn⟩; replace hx := below_call hx hbn; clear hbn)))
      clear r1 r2 r2' r3 r4 r4' e1
      go_roundw
      case rel => exact ⟨k + 1, by omega, by go_num, rfl, rfl, hx⟩
      case measure => simp [intOf]; omega
    · obtain rfl : k = N := by omega
      have e1 := HFN.out
      have e2 := HGN.out
      go_wp2_with (first
        | (go_at_call 23; ((with_reducible refine (HP2.out _ ((hx.cell (p := ⟨0, 0, none⟩) h0).trans hm)).mono ?_); rintro e wn ⟨rfl, hbn⟩; replace hx := below_call hx hbn; clear hbn))
        | (go_at_call 13; ((with_reducible refine (known_any m _ ((hx.cell (p := ⟨0, 0, none⟩) h0).trans hm)).mono ?_); rintro e wn ⟨rfl, hbn⟩; replace hx := below_call hx hbn; clear hbn)))
      go_ret
      exact ⟨rfl, hx⟩
end Go.Proofs.Ytiggholdcebjjaa
