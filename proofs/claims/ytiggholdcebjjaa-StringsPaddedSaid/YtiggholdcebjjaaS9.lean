/- The walks of Divide and of both Parts. -/
import Derived.Test.YtiggholdcebjjaaS8
import Derived.Test.YtiggholdcebjjaaSS
namespace Go.Proofs.Ytiggholdcebjjaa
open Go.RowKit
set_option linter.unusedSimpArgs false
set_option linter.unusedVariables false

def dv (s t : ByteArray) (k : Nat) : List ByteArray := (List.range k).map (part s t)
theorem dv_succ (s t : ByteArray) (k : Nat) : dv s t (k + 1) = dv s t k ++ [part s t k] := by simp [dv, List.range_succ]
theorem length_dv (s t : ByteArray) (k : Nat) : (dv s t k).length = k := by simp [dv]
theorem dv_getD (s t : ByteArray) {n k : Nat} (h : k < n) (d : ByteArray) : (dv s t n).getD k d = part s t k := by simp [dv, List.getD, h]
theorem part_last (s t : ByteArray) : part s t (NO s t) = s.extract (lo s t (NO s t)) s.size := by rw [part, hi_last]

set_option maxRecDepth 100000 in
set_option maxHeartbeats 4000000 in
theorem rdivide_any (s t : ByteArray) (w : World) (hs : s.size ≤ 4294967280) (ht : t.size ≤ 4294967280) :
    Calls Try.prog 40 #[.string s, .string t] w fun e w' => ∃ A c, e = .returned (.slice A (NO s t + 1) c) ∧ OwR RS 1 w' w.heap.size 9 A (NO s t + 1) c (dv s t (NO s t + 1)) ∧ Below w.heap.size w w' := by
  obtain ⟨i0, hi0, hz0, hz1, hz2⟩ := info_parts str_info
  have hN := NO_le s t
  have HLO : Hid (∀ k, k ≤ NO s t → lo s t k ≤ hi s t k ∧ hi s t k ≤ s.size) := Lib.hid fun k hk => ⟨lo_le hk, hi_size hk⟩
  have HHI : Hid (∀ k, k < NO s t → (occs s t).getD k 0 = hi s t k ∧ lo s t (k + 1) = hi s t k + t.size) := Lib.hid fun k hk => ⟨(hi_lt hk).symm, lo_hi hk⟩
  have HLA : Hid (part s t (NO s t) = s.extract (lo s t (NO s t)) s.size) := Lib.hid (part_last s t)
  have HLL : Hid (lo s t (NO s t) ≤ s.size) := Lib.hid (lo_size (Nat.le_refl _))
  have hro : ∀ W : World, Calls Try.prog 39 #[.string s, .string t] W fun e w' => ∃ A c, e = .returned (.slice A (NO s t) c) ∧ OwR RI 1 w' W.heap.size 3 A (NO s t) c (occs s t) ∧ Below W.heap.size W w' := fun W => roccs_any s t W hs ht
  have HRO := Lib.hid hro
  clear hro
  obtain ⟨N, hNN⟩ : ∃ N, N = NO s t := ⟨_, rfl⟩
  rw [← hNN] at hN HLO HHI HLA HLL HRO ⊢
  clear hNN
  go_enter Try.func40, Try.ntmps40
  go_wp2_with (first
    | (go_at_call 39; go_must (refine (HRO.out _).mono ?_; rintro e w1 ⟨A, c, rfl, ho, hb1⟩)))
  have HOC : Hid (0 < N → ∃ b off, A = some ⟨b, off, none⟩ ∧ b < w1.heap.size ∧ ∀ k, k < N → w1.cell? ⟨b, off + k, none⟩ = some (.int .i64 (((occs s t).getD k 0 : Nat) : Int))) := Lib.hid fun h => RdI.opened ho.rd h
  clear ho
  go_loopw [5, 7, 8] (fun v5 v7 v8 wr => ∃ (k : Nat) (B : Option Addr) (c2 : Nat), k ≤ N ∧ v5 = .slice B k c2 ∧ v7 = .int .i64 (lo s t k) ∧ v8 = .int .i64 k ∧ OwR RS 1 wr w1.heap.size 9 B k c2 (dv s t k) ∧ Below w1.heap.size w1 wr) (fun _ _ v8 _ => N - (intOf v8).toNat)
  case atStart => exact ⟨0, none, 0, Nat.zero_le _, rfl, rfl, rfl, OwR.nil _ _ _ _ _, Below.refl _ _⟩
  case round =>
    obtain ⟨k, B, c2, hkN, rfl, rfl, rfl, hown, hbw⟩ := hrel
    have hbz := hbw.size
    by_cases hlt : k < N
    · obtain ⟨bb, off, rfl, hbb, hcc⟩ := HOC.out (by omega)
      obtain ⟨hx1, hx2⟩ := HHI.out k hlt
      obtain ⟨hl1, hl2⟩ := HLO.out k (by omega)
      have cj := (hbw.cell (p := ⟨bb, off + k, none⟩) hbb).trans (hcc k hlt)
      rw [hx1] at cj
      have HX2 := Lib.hid hx2
      have HPT : Hid (dv s t (k + 1) = dv s t k ++ [s.extract (lo s t k) (hi s t k)]) := Lib.hid (dv_succ s t k)
      clear hx1 hx2 hcc
      generalize lo s t k = a at *
      generalize hi s t k = b at *
      have hij : (k : Int) < (N : Int) := by omega
      have hij0 : (0 : Int) ≤ (k : Int) := by omega
      have g1 : (0 : Int) ≤ (a : Int) := by omega
      have g2 : (a : Int) ≤ (b : Int) := by omega
      have g3 : (b : Int) ≤ (s.size : Int) := by omega
      obtain ⟨e3, he3⟩ : ∃ e3, e3 = b + t.size := ⟨_, rfl⟩
      have hw3 : IntKind.i64.wrap ((b : Int) + (t.size : Int)) = (e3 : Int) := by rw [IntKind.wrap_i64]; omega
      have HE3 := Lib.hid he3
      clear he3
      go_wp2_with (first
        | (at_builtin; go_must (refine wpList_append_r _ rfl (.tmp 18) (.tmp 26) 44 rfl 1 16 w1.heap.size 9 i0 (.string ByteArray.empty) RS.stay (by decide) Try.underlying44 hi0 hz0 hz1 hz2 rfl (by omega) B k c2 (dv s t k) rfl (OwS.alloc hown _) _ 1 1 rfl [s.extract a b] [.string (s.extract a b)] (Reads.lit (cs := #[.string (s.extract a b)]) rfl) (Fits.one rfl rfl) rfl ?_ ?_ ?_ ?_ ?_; (focus (simp [Value.oneCell'])); (focus (unfold maxLen; omega)); (focus omega); (focus (simp; omega)); intro A3 cc w3 ho3 hg3; (have hb3 := (Below.alloc (Below.refl w1.heap.size _) hbz _).trans hg3.b); (have cj3 := (hb3.cell (p := ⟨bb, off + k, none⟩) hbb).trans cj); (have hb4 := hbw.trans hb3); clear hg3 hb3)))
      go_roundw
      case rel => exact ⟨k + 1, A3, cc, by omega, rfl, by rw [HX2.out, ← HE3.out], by go_num, by rw [HPT.out]; exact ho3, hb4⟩
      case measure => simp [intOf]; omega
    · obtain rfl : k = N := by omega
      have hz := HLL.out
      have HPT : Hid (dv s t (k + 1) = dv s t k ++ [s.extract (lo s t k) s.size]) := Lib.hid (by rw [dv_succ, HLA.out])
      clear HLL HLA HHI HLO HOC
      generalize lo s t k = a at *
      have g1 : (0 : Int) ≤ (a : Int) := by omega
      have g2 : (a : Int) ≤ (s.size : Int) := by omega
      go_wp2_with (first
        | (at_builtin; go_must (refine wpList_append_r _ rfl (.tmp 35) (.tmp 39) 44 rfl 1 16 w1.heap.size 9 i0 (.string ByteArray.empty) RS.stay (by decide) Try.underlying44 hi0 hz0 hz1 hz2 rfl (by omega) B k c2 (dv s t k) rfl (OwS.alloc hown _) _ 1 1 rfl [s.extract a s.size] [.string (s.extract a s.size)] (Reads.lit (cs := #[.string (s.extract a s.size)]) rfl) (Fits.one rfl rfl) rfl ?_ ?_ ?_ ?_ ?_; (focus (simp [Value.oneCell'])); (focus (unfold maxLen; omega)); (focus omega); (focus (simp; omega)); intro A3 cc w3 ho3 hg3; (have hb3 := (Below.alloc (Below.refl w1.heap.size _) hbz _).trans hg3.b); (have hb4 := hbw.trans hb3); clear hg3 hb3)))
      go_ret
      exact ⟨A3, cc, rfl, by rw [HPT.out]; exact ho3.mono hb1.size, below_call hb1 hb4⟩

/-- what Part returns -/
def PT (s t : ByteArray) (I : Int) : ByteArray :=
  if I < 0 then (if I + ((NO s t : Int) + 1) < 0 then ByteArray.empty else part s t (I + ((NO s t : Int) + 1)).toNat)
  else (if (NO s t : Int) < I then ByteArray.empty else part s t I.toNat)
theorem PT_cases (s t : ByteArray) (I : Int) : (PT s t I = ByteArray.empty ∧ ((I < 0 ∧ I + ((NO s t : Int) + 1) < 0) ∨ (0 ≤ I ∧ (NO s t : Int) < I))) ∨
    (∃ k : Nat, PT s t I = part s t k ∧ k ≤ NO s t ∧ ((I < 0 ∧ I + ((NO s t : Int) + 1) = k) ∨ I = k)) := by
  unfold PT
  split
  · split
    · exact .inl ⟨rfl, .inl ⟨by omega, by omega⟩⟩
    · exact .inr ⟨_, rfl, by omega, .inl ⟨by omega, by omega⟩⟩
  · split
    · exact .inl ⟨rfl, .inr ⟨by omega, by omega⟩⟩
    · exact .inr ⟨_, rfl, by omega, .inr (by omega)⟩

set_option maxRecDepth 100000 in
set_option maxHeartbeats 4000000 in
theorem part_at (s t : ByteArray) (I m : Int) (k : Nat) (w : World) (hs : s.size ≤ 4294967280) (ht : t.size ≤ 4294967280) (hm : w.cell? ⟨0, 0, none⟩ = some (.int .i64 m))
    (hI9 : -9223372036854775808 ≤ I) (hk : k ≤ NO s t) (hI : (I < 0 ∧ I + ((NO s t : Int) + 1) = k) ∨ I = k) :
    Calls Try.prog 23 #[.string s, .string t, .int .i64 I] w fun e w' => e = .returned (.string (part s t k)) ∧ Below w.heap.size w w' := by
  have hN := NO_le s t
  have hl1 := lo_le hk
  have hl2 := hi_size hk
  have HP : Hid (part s t k = s.extract (lo s t k) (hi s t k)) := Lib.hid rfl
  have HA : Hid (∀ j, k = j + 1 → (occs s t).getD j 0 + t.size = lo s t k) := Lib.hid fun j e => by rw [e, lo_succ]
  have HA0 : Hid (k = 0 → lo s t k = 0) := Lib.hid fun e => by rw [e, lo_zero]
  have HB : Hid (k < NO s t → (occs s t).getD k 0 = hi s t k) := Lib.hid fun h => (hi_lt h).symm
  have HB0 : Hid (k = NO s t → hi s t k = s.size) := Lib.hid fun h => by rw [h, hi_last]
  have hro : Calls Try.prog 38 #[.string s, .string t] w fun e w' => ∃ A c, e = .returned (.slice A (NO s t) c) ∧ OwR RI 1 w' w.heap.size 3 A (NO s t) c (occs s t) ∧ Below w.heap.size w w' := all_any s t m w hs ht hm
  have HRO := Lib.hid hro
  clear hro
  rw [HP.out]
  obtain ⟨N, hNN⟩ : ∃ N, N = NO s t := ⟨_, rfl⟩
  rw [← hNN] at hN hk hI HB HB0 HRO
  clear hNN HP
  generalize lo s t k = a at *
  generalize hi s t k = b at *
  have g1 : (0 : Int) ≤ (a : Int) := by omega
  have g2 : (a : Int) ≤ (b : Int) := by omega
  have g3 : (b : Int) ≤ (s.size : Int) := by omega
  have hw1 : IntKind.i64.wrap ((N : Int) + 1) = (N : Int) + 1 := by rw [IntKind.wrap_i64]; omega
  cases k with
  | zero =>
    obtain rfl : a = 0 := HA0.out rfl
    have hI' : (I < 0 ∧ I + ((N : Int) + 1) = 0) ∨ I = 0 := by rcases hI with ⟨h, h'⟩ | h; exact .inl ⟨h, by omega⟩; exact .inr (by omega)
    clear hI HA HA0
    rcases Nat.eq_zero_or_pos N with rfl | h0
    · have hb : b = s.size := HB0.out rfl
      subst hb
      clear HB HB0 hl2 g3
      rcases hI' with ⟨hI0, hI1⟩ | rfl
      · have f9 : IntKind.i64.wrap (I + 1) = 0 := by rw [IntKind.wrap_i64]; omega
        have f8 : I + 1 = 0 := by omega
        go_enter Try.func23, Try.ntmps23
        go_wp2_with (first | (go_at_call 38; go_must (refine HRO.out.mono ?_; rintro e w1 ⟨A, c, rfl, ho, hb1⟩; skip)))
        go_ret
        exact ⟨by first | rfl | (apply ret_val; simp), hb1⟩
      · go_enter Try.func23, Try.ntmps23
        go_wp2_with (first | (go_at_call 38; go_must (refine HRO.out.mono ?_; rintro e w1 ⟨A, c, rfl, ho, hb1⟩; skip)))
        go_ret
        exact ⟨by first | rfl | (apply ret_val; simp), hb1⟩
    · have hb := HB.out h0
      have f7 : (0 : Int) < (N : Int) := by omega
      have hq := Lib.hid hb
      clear hb HB HB0
      rcases hI' with ⟨hI0, hI1⟩ | rfl
      · have f9 : IntKind.i64.wrap (I + ((N : Int) + 1)) = 0 := by rw [IntKind.wrap_i64]; omega
        go_enter Try.func23, Try.ntmps23
        go_wp2_with (first | (go_at_call 38; go_must (refine HRO.out.mono ?_; rintro e w1 ⟨A, c, rfl, ho, hb1⟩; obtain ⟨bb, off, rfl, hbb, hcc⟩ := RdI.opened ho.rd h0; (have cb := hcc 0 h0); rw [hq.out, Nat.add_zero] at cb; clear hcc)))
        go_ret
        exact ⟨by first | rfl | (apply ret_val; simp), hb1⟩
      · go_enter Try.func23, Try.ntmps23
        go_wp2_with (first | (go_at_call 38; go_must (refine HRO.out.mono ?_; rintro e w1 ⟨A, c, rfl, ho, hb1⟩; obtain ⟨bb, off, rfl, hbb, hcc⟩ := RdI.opened ho.rd h0; (have cb := hcc 0 h0); rw [hq.out, Nat.add_zero] at cb; clear hcc)))
        go_ret
        exact ⟨by first | rfl | (apply ret_val; simp), hb1⟩
  | succ j =>
    obtain ⟨q, hq⟩ : ∃ q, q = (occs s t).getD j 0 := ⟨_, rfl⟩
    have HQ : Hid ((occs s t).getD j 0 = q) := Lib.hid hq.symm
    have hqa : q + t.size = a := by rw [hq]; exact HA.out j rfl
    clear hq HA HA0
    obtain ⟨k, hkj⟩ : ∃ k, k = j + 1 := ⟨_, rfl⟩
    rw [← hkj] at hI HB HB0 hk
    have g4 : ¬ ((k : Int) < 0) := by omega
    have g5 : ¬ ((N : Int) < (k : Int)) := by omega
    have g7 : (0 : Int) < (k : Int) := by omega
    have f1 : (k : Int) - 1 = (j : Int) := by omega
    have f2 : IntKind.i64.wrap ((k : Int) - 1) = (j : Int) := by rw [IntKind.wrap_i64]; omega
    have f4 : IntKind.i64.wrap ((q : Int) + (t.size : Int)) = (a : Int) := by rw [IntKind.wrap_i64]; omega
    have f5 : (q : Int) + (t.size : Int) = (a : Int) := by omega
    have f7 : (j : Int) < (N : Int) := by omega
    have f8 : (0 : Int) ≤ (j : Int) := by omega
    have hjN : j < N := by omega
    have H0 : 0 < N := by omega
    have HKN := Lib.hid hk
    clear hkj hqa
    rcases Nat.lt_or_eq_of_le hk with hlt | rfl
    · have f6 : (k : Int) < (N : Int) := by omega
      have hb := Lib.hid (HB.out hlt)
      clear HB HB0
      rcases hI with ⟨hI0, hI1⟩ | rfl
      · have f9 : IntKind.i64.wrap (I + ((N : Int) + 1)) = (k : Int) := by rw [IntKind.wrap_i64]; omega
        go_enter Try.func23, Try.ntmps23
        go_wp2_with (first | (go_at_call 38; go_must (refine HRO.out.mono ?_; rintro e w1 ⟨A, c, rfl, ho, hb1⟩; obtain ⟨bb, off, rfl, hbb, hcc⟩ := RdI.opened ho.rd H0; (have ca := hcc j hjN); (have cb := hcc k hlt); rw [HQ.out] at ca; rw [hb.out] at cb; clear hcc)))
        go_ret
        exact ⟨by first | rfl | (apply ret_val; simp), hb1⟩
      · go_enter Try.func23, Try.ntmps23
        go_wp2_with (first | (go_at_call 38; go_must (refine HRO.out.mono ?_; rintro e w1 ⟨A, c, rfl, ho, hb1⟩; obtain ⟨bb, off, rfl, hbb, hcc⟩ := RdI.opened ho.rd H0; (have ca := hcc j hjN); (have cb := hcc k hlt); rw [HQ.out] at ca; rw [hb.out] at cb; clear hcc)))
        go_ret
        exact ⟨by first | rfl | (apply ret_val; simp), hb1⟩
    · have hb : b = s.size := HB0.out rfl
      subst hb
      clear HB HB0 hl2 g3
      rcases hI with ⟨hI0, hI1⟩ | rfl
      · have f9 : IntKind.i64.wrap (I + ((k : Int) + 1)) = (k : Int) := by rw [IntKind.wrap_i64]; omega
        go_enter Try.func23, Try.ntmps23
        go_wp2_with (first | (go_at_call 38; go_must (refine HRO.out.mono ?_; rintro e w1 ⟨A, c, rfl, ho, hb1⟩; obtain ⟨bb, off, rfl, hbb, hcc⟩ := RdI.opened ho.rd H0; (have ca := hcc j hjN); rw [HQ.out] at ca; clear hcc)))
        go_ret
        exact ⟨by first | rfl | (apply ret_val; simp), hb1⟩
      · go_enter Try.func23, Try.ntmps23
        go_wp2_with (first | (go_at_call 38; go_must (refine HRO.out.mono ?_; rintro e w1 ⟨A, c, rfl, ho, hb1⟩; obtain ⟨bb, off, rfl, hbb, hcc⟩ := RdI.opened ho.rd H0; (have ca := hcc j hjN); rw [HQ.out] at ca; clear hcc)))
        go_ret
        exact ⟨by first | rfl | (apply ret_val; simp), hb1⟩

set_option maxRecDepth 100000 in
set_option maxHeartbeats 1600000 in
theorem part_out (s t : ByteArray) (I m : Int) (w : World) (hs : s.size ≤ 4294967280) (ht : t.size ≤ 4294967280) (hm : w.cell? ⟨0, 0, none⟩ = some (.int .i64 m))
    (hI9 : -9223372036854775808 ≤ I) (hI : (I < 0 ∧ I + ((NO s t : Int) + 1) < 0) ∨ (0 ≤ I ∧ (NO s t : Int) < I)) :
    Calls Try.prog 23 #[.string s, .string t, .int .i64 I] w fun e w' => e = .returned (.string ByteArray.empty) ∧ Below w.heap.size w w' := by
  have hN := NO_le s t
  have hro : Calls Try.prog 38 #[.string s, .string t] w fun e w' => ∃ A c, e = .returned (.slice A (NO s t) c) ∧ OwR RI 1 w' w.heap.size 3 A (NO s t) c (occs s t) ∧ Below w.heap.size w w' := all_any s t m w hs ht hm
  have HRO := Lib.hid hro
  clear hro
  generalize NO s t = N at *
  have hw1 : IntKind.i64.wrap ((N : Int) + 1) = (N : Int) + 1 := by rw [IntKind.wrap_i64]; omega
  rcases hI with ⟨hI0, hI1⟩ | ⟨hI0, hI1⟩
  · have f9 : IntKind.i64.wrap (I + ((N : Int) + 1)) = I + ((N : Int) + 1) := by rw [IntKind.wrap_i64]; omega
    go_enter Try.func23, Try.ntmps23
    go_wp2_with (first | (go_at_call 38; go_must (refine HRO.out.mono ?_; rintro e w1 ⟨A, c, rfl, ho, hb1⟩)))
    go_ret
    exact ⟨rfl, hb1⟩
  · have hI2 : ¬ (I < 0) := by omega
    go_enter Try.func23, Try.ntmps23
    go_wp2_with (first | (go_at_call 38; go_must (refine HRO.out.mono ?_; rintro e w1 ⟨A, c, rfl, ho, hb1⟩)))
    go_ret
    exact ⟨rfl, hb1⟩
theorem part_any (s t : ByteArray) (I m : Int) (w : World) (hs : s.size ≤ 4294967280) (ht : t.size ≤ 4294967280) (hm : w.cell? ⟨0, 0, none⟩ = some (.int .i64 m)) (hI9 : -9223372036854775808 ≤ I) :
    Calls Try.prog 23 #[.string s, .string t, .int .i64 I] w fun e w' => e = .returned (.string (PT s t I)) ∧ Below w.heap.size w w' := by
  rcases PT_cases s t I with ⟨e, h⟩ | ⟨k, e, hk, h⟩
  · rw [e]; exact part_out s t I m w hs ht hm hI9 h
  · rw [e]; exact part_at s t I m k w hs ht hm hI9 hk h

set_option maxRecDepth 100000 in
set_option maxHeartbeats 1600000 in
theorem rpart_any (s t : ByteArray) (I : Int) (w : World) (hs : s.size ≤ 4294967280) (ht : t.size ≤ 4294967280) (hI9 : -9223372036854775808 ≤ I) :
    Calls Try.prog 24 #[.string s, .string t, .int .i64 I] w fun e w' => e = .returned (.string (PT s t I)) ∧ Below w.heap.size w w' := by
  have hN := NO_le s t
  have HRO : Hid (∀ W : World, Calls Try.prog 40 #[.string s, .string t] W fun e w' => ∃ A c, e = .returned (.slice A (NO s t + 1) c) ∧ OwR RS 1 w' W.heap.size 9 A (NO s t + 1) c (dv s t (NO s t + 1)) ∧ Below W.heap.size W w') := Lib.hid fun W => rdivide_any s t W hs ht
  have HG : Hid (∀ k, k ≤ NO s t → (dv s t (NO s t + 1)).getD k ByteArray.empty = part s t k) := Lib.hid fun k hk => dv_getD s t (by omega) _
  rcases PT_cases s t I with ⟨e, h⟩ | ⟨k, e, hk, h⟩
  · rw [e]
    clear e HG
    generalize dv s t (NO s t + 1) = L at *
    generalize NO s t = N at *
    obtain ⟨M, hM⟩ : ∃ M, M = N + 1 := ⟨_, rfl⟩
    rw [← hM] at HRO
    have hw1 : IntKind.i64.wrap (-(M : Int)) = -(M : Int) := by rw [IntKind.wrap_i64]; omega
    rcases h with ⟨hI0, hI1⟩ | ⟨hI0, hI1⟩
    · have f1 : ¬ (-(M : Int) ≤ I) := by omega
      clear hM hI1
      go_enter Try.func24, Try.ntmps24
      go_wp2_with (first | (go_at_call 40; go_must (refine (HRO.out _).mono ?_; rintro e w1 ⟨A, c, rfl, ho, hb1⟩)))
      go_ret
      exact ⟨rfl, hb1⟩
    · have f1 : ¬ (I < 0) := by omega
      have f2 : (M : Int) ≤ I := by omega
      clear hM hI1
      go_enter Try.func24, Try.ntmps24
      go_wp2_with (first | (go_at_call 40; go_must (refine (HRO.out _).mono ?_; rintro e w1 ⟨A, c, rfl, ho, hb1⟩)))
      go_ret
      exact ⟨rfl, hb1⟩
  · rw [e, ← HG.out k hk]
    clear e HG
    generalize dv s t (NO s t + 1) = L at *
    generalize NO s t = N at *
    obtain ⟨M, hM⟩ : ∃ M, M = N + 1 := ⟨_, rfl⟩
    rw [← hM] at HRO
    have hw1 : IntKind.i64.wrap (-(M : Int)) = -(M : Int) := by rw [IntKind.wrap_i64]; omega
    have hkN : k < M := by omega
    have h0M : 0 < M := by omega
    have g4 : ¬ ((k : Int) < 0) := by omega
    have g5 : ¬ ((M : Int) ≤ (k : Int)) := by omega
    have g6 : (k : Int) < (M : Int) := by omega
    have g7 : (0 : Int) ≤ (k : Int) := by omega
    rcases h with ⟨hI0, hI1⟩ | rfl
    · have f1 : -(M : Int) ≤ I := by omega
      have f10 : I + (M : Int) = (k : Int) := by omega
      have f9 : IntKind.i64.wrap (I + (M : Int)) = (k : Int) := by rw [IntKind.wrap_i64]; omega
      clear hM hI1
      go_enter Try.func24, Try.ntmps24
      go_wp2_with (first | (go_at_call 40; go_must (refine (HRO.out _).mono ?_; rintro e w1 ⟨A, c, rfl, ho, hb1⟩; obtain ⟨bb, off, rfl, hbb, hcc⟩ := RdS.opened ho.rd h0M; (have ca := hcc k hkN); clear hcc)))
      go_ret
      exact ⟨rfl, hb1⟩
    · clear hM
      go_enter Try.func24, Try.ntmps24
      go_wp2_with (first | (go_at_call 40; go_must (refine (HRO.out _).mono ?_; rintro e w1 ⟨A, c, rfl, ho, hb1⟩; obtain ⟨bb, off, rfl, hbb, hcc⟩ := RdS.opened ho.rd h0M; (have ca := hcc k hkN); clear hcc)))
      go_ret
      exact ⟨rfl, hb1⟩
end Go.Proofs.Ytiggholdcebjjaa
