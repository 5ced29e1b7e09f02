/- The walks of PadLeft, PadRight and of the reference's padding and pad. -/
import Derived.Test.YtiggholdcebjjaaS13
namespace Go.Proofs.Ytiggholdcebjjaa
open Go.RowKit
set_option linter.unusedSimpArgs false
set_option linter.unusedVariables false

/-- what PadLeft (true) and PadRight (false) return -/
def FV (L : Bool) (s f : ByteArray) (n : Int) : Value :=
  if 32768 < (PP s f n).size + s.size then .tuple #[.string ByteArray.empty, .int .i64 3]
  else .tuple #[.string (if L then PP s f n ++ s else s ++ PP s f n), .int .i64 0]
theorem FV_big {L : Bool} {s f : ByteArray} {n : Int} (h : 32768 < (PP s f n).size + s.size) : FV L s f n = .tuple #[.string ByteArray.empty, .int .i64 3] := if_pos h
theorem FV_left {s f : ByteArray} {n : Int} (h : ¬ 32768 < (PP s f n).size + s.size) : FV true s f n = .tuple #[.string (PP s f n ++ s), .int .i64 0] := by unfold FV; rw [if_neg h]; rfl
theorem FV_right {s f : ByteArray} {n : Int} (h : ¬ 32768 < (PP s f n).size + s.size) : FV false s f n = .tuple #[.string (s ++ PP s f n), .int .i64 0] := by unfold FV; rw [if_neg h]; rfl
theorem FV_form (L : Bool) (s f : ByteArray) (n : Int) : ∃ (z : ByteArray) (c : Int), FV L s f n = .tuple #[.string z, .int .i64 c] := by
  unfold FV
  split
  · exact ⟨_, _, rfl⟩
  · exact ⟨_, _, rfl⟩

/-- what a call of padding says -/
def PadOk (s f : ByteArray) (n : Int) : Prop := ∀ w, Calls Try.prog 43 #[.string s, .int .i64 n, .string f] w fun e w' => e = .returned (.tuple #[.string (PP s f n), .bool true]) ∧ Below w.heap.size w w'
def PadNo (s f p : ByteArray) (n : Int) : Prop := ∀ w, Calls Try.prog 43 #[.string s, .int .i64 n, .string f] w fun e w' => e = .returned (.tuple #[.string p, .bool false]) ∧ Below w.heap.size w w'
theorem padding_cases (s f : ByteArray) (n : Int) (hs : s.size ≤ 400) (hf : f.size ≤ 50) (hn9 : n ≤ 9223372036854775807) :
    (PadOk s f n ∧ (PP s f n).size ≤ 40000) ∨ (32768 < (PP s f n).size ∧ ∃ p, PadNo s f p n) := by
  rcases PP_form s f n with ⟨e, h⟩ | ⟨d, e, h0, hf0, hn⟩
  · refine .inl ⟨fun w => ?_, by rw [e]; decide⟩
    rw [e]
    exact pad_triv s f n w hs h
  · have hge := PD_ge (NR_pos hf0) d
    rcases Nat.lt_or_ge 32768 d with h | h
    · right
      refine ⟨by rw [e]; omega, ByteArray.empty, fun w => ?_⟩
      rw [hn]
      exact pad_big s f d w hs hf0 h (by omega)
    · have hc := fun w => pad_some s f d w hs hf0 hf h0 h
      by_cases hr : (rep f (d / NR f)).size ≤ 32768
      · have hsz : (PD f d).size ≤ 40000 := by
          unfold PD
          rw [ByteArray.size_append, ByteArray.size_extract]
          omega
        refine .inl ⟨fun w => ?_, by rw [e]; exact hsz⟩
        rw [e, hn]
        have := hc w
        rwa [show decide (((rep f (d / NR f)).size : Int) ≤ 32768) = true from by simp; omega] at this
      · right
        have := rep_le (f := f) d
        refine ⟨by rw [e]; omega, PD f d, fun w => ?_⟩
        rw [hn]
        have := hc w
        rwa [show decide (((rep f (d / NR f)).size : Int) ≤ 32768) = false from by simp; omega] at this

theorem checked_big (x : ByteArray) (w : World) (h : 32768 < x.size) (h9 : x.size ≤ 9223372036854775807) :
    Calls Try.prog 44 #[.string x] w fun e w' => e = .returned (.tuple #[.string ByteArray.empty, .int .i64 3]) ∧ w' = w := by
  have h1 : (32768 : Int) < (x.size : Int) := by omega
  clear h
  go_enter Try.func44, Try.ntmps44
  go_wp2
  go_ret2
  exact ⟨rfl, rfl⟩
theorem checked_ok (x : ByteArray) (w : World) (h : ¬ 32768 < x.size) :
    Calls Try.prog 44 #[.string x] w fun e w' => e = .returned (.tuple #[.string x, .int .i64 0]) ∧ w' = w := by
  have h1 : ¬ (32768 : Int) < (x.size : Int) := by omega
  clear h
  go_enter Try.func44, Try.ntmps44
  go_wp2
  go_ret2
  exact ⟨rfl, rfl⟩

set_option maxHeartbeats 1600000 in
theorem padleft_any (s f : ByteArray) (n : Int) (w : World) (hs : s.size ≤ 400) (hf : f.size ≤ 50) (hn9 : n ≤ 9223372036854775807) :
    Calls Try.prog 27 #[.string s, .int .i64 n, .string f] w fun e w' => e = .returned (FV true s f n) ∧ Below w.heap.size w w' := by
  have hx := Below.refl w.heap.size w
  rcases padding_cases s f n hs hf hn9 with ⟨h, hz⟩ | ⟨hbig, p, h⟩
  · have HP2 : Hid (∀ w, Calls Try.prog 43 #[.string s, .int .i64 n, .string f] w fun e w' => e = .returned (.tuple #[.string (PP s f n), .bool true]) ∧ Below w.heap.size w w') := Lib.hid h
    have hsz : (PP s f n ++ s).size = (PP s f n).size + s.size := ByteArray.size_append ..
    clear h
    by_cases hb : 32768 < (PP s f n).size + s.size
    · rw [FV_big hb]
      have HC := Lib.hid fun w => checked_big (PP s f n ++ s) w (by omega) (by omega)
      generalize PP s f n = x at *
      have r1 : ¬ 9223372036854775807 < x.size + s.size := by omega
      clear hsz hb hz
      go_enter Try.func27, Try.ntmps27
      go_wp2_with (first
        | (go_at_call 43; ((with_reducible refine (HP2.out _).mono ?_); rintro e wn ⟨rfl, hbn⟩; replace hx := below_call hx hbn; clear hbn))
        | (go_at_call 44; ((with_reducible refine (HC.out _).mono ?_); rintro e wn ⟨rfl, rfl⟩)))
      go_ret2
      exact ⟨rfl, hx⟩
    · rw [FV_left hb]
      have HC := Lib.hid fun w => checked_ok (PP s f n ++ s) w (by omega)
      generalize PP s f n = x at *
      have r1 : ¬ 9223372036854775807 < x.size + s.size := by omega
      clear hsz hb hz
      go_enter Try.func27, Try.ntmps27
      go_wp2_with (first
        | (go_at_call 43; ((with_reducible refine (HP2.out _).mono ?_); rintro e wn ⟨rfl, hbn⟩; replace hx := below_call hx hbn; clear hbn))
        | (go_at_call 44; ((with_reducible refine (HC.out _).mono ?_); rintro e wn ⟨rfl, rfl⟩)))
      go_ret2
      exact ⟨rfl, hx⟩
  · rw [FV_big (by omega)]
    have HP2 : Hid (∀ w, Calls Try.prog 43 #[.string s, .int .i64 n, .string f] w fun e w' => e = .returned (.tuple #[.string p, .bool false]) ∧ Below w.heap.size w w') := Lib.hid h
    clear h hbig
    go_enter Try.func27, Try.ntmps27
    go_wp2_with (first | (go_at_call 43; ((with_reducible refine (HP2.out _).mono ?_); rintro e wn ⟨rfl, hbn⟩; replace hx := below_call hx hbn; clear hbn)))
    go_ret2
    exact ⟨rfl, hx⟩
set_option maxHeartbeats 1600000 in
theorem padright_any (s f : ByteArray) (n : Int) (w : World) (hs : s.size ≤ 400) (hf : f.size ≤ 50) (hn9 : n ≤ 9223372036854775807) :
    Calls Try.prog 29 #[.string s, .int .i64 n, .string f] w fun e w' => e = .returned (FV false s f n) ∧ Below w.heap.size w w' := by
  have hx := Below.refl w.heap.size w
  rcases padding_cases s f n hs hf hn9 with ⟨h, hz⟩ | ⟨hbig, p, h⟩
  · have HP2 : Hid (∀ w, Calls Try.prog 43 #[.string s, .int .i64 n, .string f] w fun e w' => e = .returned (.tuple #[.string (PP s f n), .bool true]) ∧ Below w.heap.size w w') := Lib.hid h
    have hsz : (s ++ PP s f n).size = s.size + (PP s f n).size := ByteArray.size_append ..
    clear h
    by_cases hb : 32768 < (PP s f n).size + s.size
    · rw [FV_big hb]
      have HC := Lib.hid fun w => checked_big (s ++ PP s f n) w (by omega) (by omega)
      generalize PP s f n = x at *
      have r1 : ¬ 9223372036854775807 < s.size + x.size := by omega
      clear hsz hb hz
      go_enter Try.func29, Try.ntmps29
      go_wp2_with (first
        | (go_at_call 43; ((with_reducible refine (HP2.out _).mono ?_); rintro e wn ⟨rfl, hbn⟩; replace hx := below_call hx hbn; clear hbn))
        | (go_at_call 44; ((with_reducible refine (HC.out _).mono ?_); rintro e wn ⟨rfl, rfl⟩)))
      go_ret2
      exact ⟨rfl, hx⟩
    · rw [FV_right hb]
      have HC := Lib.hid fun w => checked_ok (s ++ PP s f n) w (by omega)
      generalize PP s f n = x at *
      have r1 : ¬ 9223372036854775807 < s.size + x.size := by omega
      clear hsz hb hz
      go_enter Try.func29, Try.ntmps29
      go_wp2_with (first
        | (go_at_call 43; ((with_reducible refine (HP2.out _).mono ?_); rintro e wn ⟨rfl, hbn⟩; replace hx := below_call hx hbn; clear hbn))
        | (go_at_call 44; ((with_reducible refine (HC.out _).mono ?_); rintro e wn ⟨rfl, rfl⟩)))
      go_ret2
      exact ⟨rfl, hx⟩
  · rw [FV_big (by omega)]
    have HP2 : Hid (∀ w, Calls Try.prog 43 #[.string s, .int .i64 n, .string f] w fun e w' => e = .returned (.tuple #[.string p, .bool false]) ∧ Below w.heap.size w w') := Lib.hid h
    clear h hbig
    go_enter Try.func29, Try.ntmps29
    go_wp2_with (first | (go_at_call 43; ((with_reducible refine (HP2.out _).mono ?_); rintro e wn ⟨rfl, hbn⟩; replace hx := below_call hx hbn; clear hbn)))
    go_ret2
    exact ⟨rfl, hx⟩

set_option maxRecDepth 100000 in
set_option maxHeartbeats 4000000 in
theorem rpadding_any (f : ByteArray) (d : Nat) (w : World) (hf0 : f.size ≠ 0) (hf : f.size ≤ 50) (hd : (d : Int) ≤ 9223372036854775807) :
    Calls Try.prog 51 #[.int .i64 d, .string f] w fun e w' => e = .returned (if 32768 < (PD f d).size then .tuple #[.string ByteArray.empty, .bool false] else .tuple #[.string (PD f d), .bool true]) ∧ Below w.heap.size w w' := by
  have hK := NR_pos hf0
  have hKf := NR_le f
  have hl := offs_len f
  obtain ⟨V, hV⟩ : ∃ V : Value, V = if 32768 < (PD f d).size then .tuple #[.string ByteArray.empty, .bool false] else .tuple #[.string (PD f d), .bool true] := ⟨_, rfl⟩
  have HV := Lib.hid hV
  rw [← hV]
  clear hV
  have HO : Hid (∀ W, Calls Try.prog 34 #[.string f] W fun e w' => ∃ A c, e = .returned (.slice A (NR f + 1) c) ∧ OwR RI 1 w' W.heap.size 3 A (NR f + 1) c (offs f) ∧ Below W.heap.size W w') := Lib.hid fun W => by
    have := starts_any f W (by omega)
    rwa [hl] at this
  have HST : Hid (∀ i, PD f (i + 1) = PD f i ++ f.extract (O f (i % NR f)) (O f (i % NR f + 1)) ∧ i % NR f < NR f ∧ O f (i % NR f) ≤ O f (i % NR f + 1) ∧ O f (i % NR f + 1) ≤ f.size) := Lib.hid fun i => by
    have hr := Nat.mod_lt i hK
    exact ⟨PD_step hK i, hr, O_le (Nat.le_succ _) (by omega), O_size (by omega)⟩
  have HLE : Hid (∀ i, i ≤ d → (PD f i).size ≤ (PD f d).size) := Lib.hid fun i hi => PD_le hK hi
  have HG : Hid (∀ k, (offs f).getD k 0 = O f k) := Lib.hid fun k => rfl
  have HZ : Hid (PD f 0 = ByteArray.empty) := Lib.hid PD_zero
  have HGE : Hid (∀ i, i ≤ (PD f i).size) := Lib.hid fun i => PD_ge hK i
  obtain ⟨M, hM⟩ : ∃ M : Nat → Nat, M = fun i => i % NR f := ⟨_, rfl⟩
  have HM : Hid (∀ i, i % NR f = M i) := Lib.hid fun i => by rw [hM]
  have HM2 : Hid (∀ i : Nat, (i : Int) % (NR f : Int) = (M i : Int)) := Lib.hid fun i => by rw [hM]; simp
  clear hM
  generalize NR f = K at *
  have k0 : (0 : Int) ≤ (K : Int) := by omega
  have k1 : ((K : Int) == 0) = false := by simp; omega
  have k2 : IntKind.i64.wrap ((K : Int) + 1 - 1) = (K : Int) := by rw [IntKind.wrap_i64]; omega
  have k3 : (K : Int) + 1 - 1 = (K : Int) := by omega
  have hK50 : K ≤ 50 := by omega
  clear hf0 hl
  go_enter Try.func51, Try.ntmps51
  go_wp2_with (first
    | (go_at_call 34; ((with_reducible refine (HO.out _).mono ?_); rintro e w1 ⟨A, c, rfl, ho, hb1⟩; obtain ⟨bb, off, rfl, hbb, hcc⟩ := RdI.opened ho.rd (Nat.succ_pos _))))
  have HCC := Lib.hid hcc
  clear hcc ho
  go_loopw [7, 8] (fun v7 v8 wr => ∃ i : Nat, i ≤ d ∧ v7 = .string (PD f i) ∧ v8 = .int .i64 i ∧ (PD f i).size ≤ 32768 ∧ Below w1.heap.size w1 wr) (fun _ v8 _ => d - (intOf v8).toNat)
  case atStart => exact ⟨0, Nat.zero_le _, by rw [HZ.out]; rfl, rfl, by rw [HZ.out]; decide, Below.refl _ _⟩
  case round =>
    obtain ⟨i, hi, rfl, rfl, hpi, hbw⟩ := hrel
    have hige := HGE.out i
    by_cases hlt : i < d
    · obtain ⟨hy, hr, ho1, ho2⟩ := HST.out i
      have hyd := HLE.out (i + 1) (by omega)
      have m1 := HM2.out i
      rw [HM.out i] at hy hr ho1 ho2
      have hc1 := (hbw.cell (p := ⟨bb, off + M i, none⟩) hbb).trans (HCC.out (M i) (by omega))
      have hc2 := (hbw.cell (p := ⟨bb, off + (M i + 1), none⟩) hbb).trans (HCC.out (M i + 1) (by omega))
      rw [HG.out] at hc1 hc2
      have hxz : (f.extract (O f (M i)) (O f (M i + 1))).size ≤ 50 := by rw [ByteArray.size_extract]; omega
      generalize hx : f.extract (O f (M i)) (O f (M i + 1)) = x at *
      generalize O f (M i) = a at *
      generalize O f (M i + 1) = b at *
      generalize M i = r at *
      obtain ⟨y, hyy⟩ : ∃ y, y = PD f (i + 1) := ⟨_, rfl⟩
      rw [← hyy] at hy hyd
      have HY := Lib.hid hyy
      clear hyy
      have hy2 := hy.symm
      clear hy
      have i0 : (0 : Int) ≤ (i : Int) := by omega
      have i1 : (i : Int) < (d : Int) := by omega
      have m2 : (i : Int).tmod (K : Int) = (r : Int) := by rw [Int.tmod_eq_emod_of_nonneg i0]; exact m1
      have r0 : (0 : Int) ≤ (r : Int) := by omega
      have r1 : (r : Int) < (K : Int) + 1 := by omega
      have r1' : (r : Int) < ((K + 1 : Nat) : Int) := by omega
      have r2 : IntKind.i64.wrap ((r : Int) + 1) = (r : Int) + 1 := by rw [IntKind.wrap_i64]; omega
      have r3 : (0 : Int) ≤ (r : Int) + 1 := by omega
      have r4 : (r : Int) + 1 < (K : Int) + 1 := by omega
      have r4' : (r : Int) + 1 < ((K + 1 : Nat) : Int) := by omega
      have r5 : ((r : Int) + 1).toNat = r + 1 := by omega
      have a0 : (0 : Int) ≤ (a : Int) := by omega
      have a1 : (a : Int) ≤ (b : Int) := by omega
      have a2 : (b : Int) ≤ (f.size : Int) := by omega
      have a3 : (0 : Int) ≤ (b : Int) := by omega
      have z1 : ¬ 9223372036854775807 < (PD f i).size + x.size := by omega
      by_cases hbg : 32768 < y.size
      · have hbg2 : (32768 : Int) < (y.size : Int) := by omega
        have HB := Lib.hid (show 32768 < (PD f d).size by omega)
        clear hbg hyd hxz
        go_wp2
        go_quiet (fail)
        go_wp2
        go_ret2
        exact ⟨by rw [HV.out, if_pos HB.out]; rfl, below_drewN (below_call hb1 hbw) _⟩
      · have hbg2 : ¬ (32768 : Int) < (y.size : Int) := by omega
        clear hyd hxz
        go_wp2
        go_quiet (fail)
        go_wp2
        clear z1 hy2 m1 m2
        go_roundw
        case rel => exact ⟨i + 1, by omega, by rw [← HY.out], by go_num, by rw [← HY.out]; omega, below_drewN hbw _⟩
        case measure => simp [intOf]; omega
    · obtain rfl : i = d := by omega
      have HB := Lib.hid (show ¬ 32768 < (PD f i).size by omega)
      go_wp2
      go_ret2
      exact ⟨by rw [HV.out, if_neg HB.out]; rfl, below_call hb1 hbw⟩
end Go.Proofs.Ytiggholdcebjjaa
