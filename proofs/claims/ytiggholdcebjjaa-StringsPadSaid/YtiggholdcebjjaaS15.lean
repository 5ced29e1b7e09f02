/- The walks of the reference's pad, of StringsPad and StringsPadded. -/
import Derived.Test.YtiggholdcebjjaaS14
namespace Go.Proofs.Ytiggholdcebjjaa
open Go.RowKit
set_option linter.unusedSimpArgs false
set_option linter.unusedVariables false

theorem empty_app (s : ByteArray) : ByteArray.empty ++ s = s := by apply ByteArray.ext; simp
theorem app_empty (s : ByteArray) : s ++ ByteArray.empty = s := by apply ByteArray.ext; simp

set_option maxHeartbeats 4000000 in
theorem rpad_any (L : Bool) (s f : ByteArray) (n : Int) (w : World) (hs : s.size ≤ 400) (hf : f.size ≤ 50) (hn9 : n ≤ 9223372036854775807) :
    Calls Try.prog 45 #[.string s, .int .i64 n, .string f, .bool L] w fun e w' => e = .returned (FV L s f n) ∧ Below w.heap.size w w' := by
  have hx := Below.refl w.heap.size w
  have HL : Hid (∀ W, Calls Try.prog 15 #[.string s] W fun e w' => e = .returned (.int .i64 (NR s : Int)) ∧ Below W.heap.size W w') := Lib.hid fun W => rlength_any s W (by omega)
  have hN := NR_le s
  have s1 : IntKind.i64.wrap (32768 - (s.size : Int)) = 32768 - (s.size : Int) := by rw [IntKind.wrap_i64]; omega
  have s2 : (0 : Int) ≤ 32768 - (s.size : Int) := by omega
  have s3 : ¬ (32768 - (s.size : Int)) < 0 := by omega
  have s4 : ¬ (32768 : Int) < (s.size : Int) := by omega
  have s5 : (s.size : Int) ≤ 32768 := by omega
  have s6 : s.size ≤ 32768 := by omega
  rcases PP_form s f n with ⟨e, h⟩ | ⟨d, e, h0, hf0, hn⟩
  · have hb : ¬ 32768 < (PP s f n).size + s.size := by rw [e]; show ¬ 32768 < 0 + s.size; omega
    have HFL := Lib.hid (FV_left (s := s) (f := f) (n := n) hb)
    have HFR := Lib.hid (FV_right (s := s) (f := f) (n := n) hb)
    rw [e, empty_app] at HFL
    rw [e, app_empty] at HFR
    have e1 := empty_app s
    have e2 := app_empty s
    have e3 : (⟨#[]⟩ : ByteArray) ++ s = s := e1
    have e4 : s ++ (⟨#[]⟩ : ByteArray) = s := e2
    clear hb e
    by_cases h1 : n ≤ (NR s : Int)
    · have h2 : ¬ (NR s : Int) < n := by omega
      generalize NR s = N at *
      clear h
      cases L
      · go_enter Try.func45, Try.ntmps45
        go_wp2_with (first | (go_at_call 15; ((with_reducible refine (HL.out _).mono ?_); rintro e wn ⟨rfl, hbn⟩; replace hx := below_call hx hbn; clear hbn)))
        go_ret2
        exact ⟨by rw [HFR.out]; rfl, hx⟩
      · go_enter Try.func45, Try.ntmps45
        go_wp2_with (first | (go_at_call 15; ((with_reducible refine (HL.out _).mono ?_); rintro e wn ⟨rfl, hbn⟩; replace hx := below_call hx hbn; clear hbn)))
        go_ret2
        exact ⟨by rw [HFL.out]; rfl, hx⟩
    · have h2 : (NR s : Int) < n := by omega
      have hf0 : f.size = 0 := by omega
      have he : f.toList = [] := by rw [size_empty hf0]; exact empty_toList
      have he2 : f.toList.isEmpty = true := by rw [he]; rfl
      generalize NR s = N at *
      clear h hf0
      cases L
      · go_enter Try.func45, Try.ntmps45
        go_wp2_with (first | (go_at_call 15; ((with_reducible refine (HL.out _).mono ?_); rintro e wn ⟨rfl, hbn⟩; replace hx := below_call hx hbn; clear hbn)))
        go_ret2
        exact ⟨by rw [HFR.out]; rfl, hx⟩
      · go_enter Try.func45, Try.ntmps45
        go_wp2_with (first | (go_at_call 15; ((with_reducible refine (HL.out _).mono ?_); rintro e wn ⟨rfl, hbn⟩; replace hx := below_call hx hbn; clear hbn)))
        go_ret2
        exact ⟨by rw [HFL.out]; rfl, hx⟩
  · have he := nonempty_list hf0
    have hd9 : (d : Int) ≤ 9223372036854775807 := by omega
    have HP : Hid (∀ W, Calls Try.prog 51 #[.int .i64 d, .string f] W fun e w' => e = .returned (if 32768 < (PD f d).size then .tuple #[.string ByteArray.empty, .bool false] else .tuple #[.string (PD f d), .bool true]) ∧ Below W.heap.size W w') := Lib.hid fun W => rpadding_any f d W hf0 hf hd9
    have h2 : (NR s : Int) < n := by omega
    have h3 : IntKind.i64.wrap (n - (NR s : Int)) = (d : Int) := by rw [IntKind.wrap_i64]; omega
    have h3' : n - (NR s : Int) = (d : Int) := by omega
    have d7 : wrap64 (d : Int) = (d : Int) := by unfold wrap64; omega
    by_cases hp : 32768 < (PD f d).size
    · have HF := Lib.hid (FV_big (L := L) (s := s) (f := f) (n := n) (by rw [e]; omega))
      rw [if_pos hp] at HP
      generalize NR s = N at *
      clear e hf0 hn hp
      cases L
      all_goals
        go_enter Try.func45, Try.ntmps45
        go_wp2_with (first | (go_at_call 15; ((with_reducible refine (HL.out _).mono ?_); rintro e wn ⟨rfl, hbn⟩; replace hx := below_call hx hbn; clear hbn)) | (go_at_call 51; ((with_reducible refine (HP.out _).mono ?_); rintro e wn ⟨rfl, hbn⟩; replace hx := below_call hx hbn; clear hbn)))
        go_ret2
        exact ⟨by rw [HF.out]; rfl, hx⟩
    · rw [if_neg hp] at HP
      by_cases hb : 32768 < (PP s f n).size + s.size
      · have HF := Lib.hid (FV_big (L := L) (s := s) (f := f) (n := n) hb)
        rw [e] at hb
        generalize PD f d = x at *
        generalize NR s = N at *
        have q1 : 32768 - (s.size : Int) < (x.size : Int) := by omega
        clear e hf0 hn hp hb
        cases L
        all_goals
          go_enter Try.func45, Try.ntmps45
          go_wp2_with (first | (go_at_call 15; ((with_reducible refine (HL.out _).mono ?_); rintro e wn ⟨rfl, hbn⟩; replace hx := below_call hx hbn; clear hbn)) | (go_at_call 51; ((with_reducible refine (HP.out _).mono ?_); rintro e wn ⟨rfl, hbn⟩; replace hx := below_call hx hbn; clear hbn)))
          go_ret2
          exact ⟨by rw [HF.out]; rfl, hx⟩
      · have HFL := Lib.hid (FV_left (s := s) (f := f) (n := n) hb)
        have HFR := Lib.hid (FV_right (s := s) (f := f) (n := n) hb)
        rw [e] at hb HFL HFR
        generalize PD f d = x at *
        generalize NR s = N at *
        have q1 : ¬ 32768 - (s.size : Int) < (x.size : Int) := by omega
        have z1 : ¬ 9223372036854775807 < x.size + s.size := by omega
        have z2 : ¬ 9223372036854775807 < s.size + x.size := by omega
        clear e hf0 hn hp hb
        cases L
        · go_enter Try.func45, Try.ntmps45
          go_wp2_with (first | (go_at_call 15; ((with_reducible refine (HL.out _).mono ?_); rintro e wn ⟨rfl, hbn⟩; replace hx := below_call hx hbn; clear hbn)) | (go_at_call 51; ((with_reducible refine (HP.out _).mono ?_); rintro e wn ⟨rfl, hbn⟩; replace hx := below_call hx hbn; clear hbn)))
          go_ret2
          exact ⟨by rw [HFR.out]; rfl, hx⟩
        · go_enter Try.func45, Try.ntmps45
          go_wp2_with (first | (go_at_call 15; ((with_reducible refine (HL.out _).mono ?_); rintro e wn ⟨rfl, hbn⟩; replace hx := below_call hx hbn; clear hbn)) | (go_at_call 51; ((with_reducible refine (HP.out _).mono ?_); rintro e wn ⟨rfl, hbn⟩; replace hx := below_call hx hbn; clear hbn)))
          go_ret2
          exact ⟨by rw [HFL.out]; rfl, hx⟩
theorem rpadleft_any (s f : ByteArray) (n : Int) (w : World) (hs : s.size ≤ 400) (hf : f.size ≤ 50) (hn9 : n ≤ 9223372036854775807) :
    Calls Try.prog 28 #[.string s, .int .i64 n, .string f] w fun e w' => e = .returned (FV true s f n) ∧ Below w.heap.size w w' := by
  have hx := Below.refl w.heap.size w
  obtain ⟨z, c, hV⟩ := FV_form true s f n
  have HP := Lib.hid fun W => rpad_any true s f n W hs hf hn9
  rw [hV] at HP ⊢
  clear hV
  go_enter Try.func28, Try.ntmps28
  go_wp2_with (first | (go_at_call 45; ((with_reducible refine (HP.out _).mono ?_); rintro e wn ⟨rfl, hbn⟩; replace hx := below_call hx hbn; clear hbn)))
  go_ret2
  exact ⟨rfl, hx⟩
theorem rpadright_any (s f : ByteArray) (n : Int) (w : World) (hs : s.size ≤ 400) (hf : f.size ≤ 50) (hn9 : n ≤ 9223372036854775807) :
    Calls Try.prog 30 #[.string s, .int .i64 n, .string f] w fun e w' => e = .returned (FV false s f n) ∧ Below w.heap.size w w' := by
  have hx := Below.refl w.heap.size w
  obtain ⟨z, c, hV⟩ := FV_form false s f n
  have HP := Lib.hid fun W => rpad_any false s f n W hs hf hn9
  rw [hV] at HP ⊢
  clear hV
  go_enter Try.func30, Try.ntmps30
  go_wp2_with (first | (go_at_call 45; ((with_reducible refine (HP.out _).mono ?_); rintro e wn ⟨rfl, hbn⟩; replace hx := below_call hx hbn; clear hbn)))
  go_ret2
  exact ⟨rfl, hx⟩

set_option maxHeartbeats 4000000 in
theorem lawpad_walk (s f : ByteArray) (n m : Int) (w : World) (hn9 : n ≤ 9223372036854775807) (hm : w.cell? ⟨0, 0, none⟩ = some (.int .i64 m)) :
    Calls Try.prog 11 #[.string s, .int .i64 n, .string f] w fun e w' => e = .returned (.bool true) ∧ Below w.heap.size w w' := by
  have h0 : 0 < w.heap.size := World.block_lt_of_cell? _ _ hm
  have hx := Below.refl w.heap.size w
  by_cases h1 : (400 : Int) < (s.size : Int)
  · go_enter Try.func11, Try.ntmps11
    go_wp2_with (first | (go_at_call 13; ((with_reducible refine (known_any m _ ((hx.cell (p := ⟨0, 0, none⟩) h0).trans hm)).mono ?_); rintro e wn ⟨rfl, hbn⟩; replace hx := below_call hx hbn; clear hbn)))
    go_ret
    exact ⟨rfl, hx⟩
  by_cases h2 : (50 : Int) < (f.size : Int)
  · go_enter Try.func11, Try.ntmps11
    go_wp2_with (first | (go_at_call 13; ((with_reducible refine (known_any m _ ((hx.cell (p := ⟨0, 0, none⟩) h0).trans hm)).mono ?_); rintro e wn ⟨rfl, hbn⟩; replace hx := below_call hx hbn; clear hbn)))
    go_ret
    exact ⟨rfl, hx⟩
  obtain ⟨z, c, hV⟩ := FV_form true s f n
  obtain ⟨z2, c2, hV2⟩ := FV_form false s f n
  have HA := Lib.hid fun W => padleft_any s f n W (by omega) (by omega) hn9
  have HB := Lib.hid fun W => rpadleft_any s f n W (by omega) (by omega) hn9
  have HC := Lib.hid fun W => padright_any s f n W (by omega) (by omega) hn9
  have HD := Lib.hid fun W => rpadright_any s f n W (by omega) (by omega) hn9
  rw [hV] at HA HB
  rw [hV2] at HC HD
  clear hV hV2
  go_enter Try.func11, Try.ntmps11
  go_wp2_with (first
    | (go_at_call 27; ((with_reducible refine (HA.out _).mono ?_); rintro e wn ⟨rfl, hbn⟩; replace hx := below_call hx hbn; clear hbn))
    | (go_at_call 28; ((with_reducible refine (HB.out _).mono ?_); rintro e wn ⟨rfl, hbn⟩; replace hx := below_call hx hbn; clear hbn))
    | (go_at_call 29; ((with_reducible refine (HC.out _).mono ?_); rintro e wn ⟨rfl, hbn⟩; replace hx := below_call hx hbn; clear hbn))
    | (go_at_call 30; ((with_reducible refine (HD.out _).mono ?_); rintro e wn ⟨rfl, hbn⟩; replace hx := below_call hx hbn; clear hbn))
    | (go_at_call 13; ((with_reducible refine (known_any m _ ((hx.cell (p := ⟨0, 0, none⟩) h0).trans hm)).mono ?_); rintro e wn ⟨rfl, hbn⟩; replace hx := below_call hx hbn; clear hbn)))
  go_ret
  exact ⟨rfl, hx⟩
end Go.Proofs.Ytiggholdcebjjaa
