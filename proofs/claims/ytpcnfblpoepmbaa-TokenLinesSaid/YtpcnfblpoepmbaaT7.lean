/- The walks of Text, TokenCovers, TokenLimit. -/
import Derived.Test.YtpcnfblpoepmbaaT6
import Derived.Test.YtpcnfblpoepmbaaTP5
namespace Go.Proofs.Ytpcnfblpoepmbaa
open Go.RowKit
set_option linter.unusedSimpArgs false
set_option linter.unusedVariables false

/-- what Text returns -/
def TT (s : ByteArray) (f t : Int) : ByteArray := if f < 0 ∨ t < f ∨ (s.size : Int) < t then ByteArray.empty else s.extract f.toNat t.toNat
theorem TT_in {s : ByteArray} {f t : Nat} (h1 : f ≤ t) (h2 : t ≤ s.size) : TT s f t = s.extract f t := by
  unfold TT
  rw [if_neg (by omega)]
  simp
set_option maxHeartbeats 1600000 in
theorem text_any (s : ByteArray) (k f t : Int) (w : World) :
    Calls Try.prog 14 #[.string s, .agg #[.int .i64 k, .int .i64 f, .int .i64 t]] w fun e w' => e = .returned (.string (TT s f t)) ∧ Below w.heap.size w w' := by
  have HV : Hid (TT s f t = if f < 0 ∨ t < f ∨ (s.size : Int) < t then ByteArray.empty else s.extract f.toNat t.toNat) := Lib.hid rfl
  rw [HV.out]
  clear HV
  by_cases h1 : f < 0
  · rw [if_pos (.inl h1)]
    go_enter Try.func14, Try.ntmps14
    go_wp2
    go_ret
    exact ⟨rfl, by (refine bel_out ?_; (focus (repeat' first | (with_reducible refine bel_refl ?_) | with_reducible assumption | with_reducible refine bel_drew ?_ | with_reducible refine bel_drewN _ ?_ | with_reducible refine bel_alloc _ ?_ | with_reducible refine bel_set ?_ _ ?_ | (with_reducible apply bel_call; with_reducible assumption) | (with_reducible apply bel_owg; with_reducible assumption; (focus omega)) | with_reducible exact Nat.le_refl _ | omega | (simp; done) | (simp; omega))))⟩
  by_cases h2 : t < f
  · rw [if_pos (.inr (.inl h2))]
    go_enter Try.func14, Try.ntmps14
    go_wp2
    go_ret
    exact ⟨rfl, by (refine bel_out ?_; (focus (repeat' first | (with_reducible refine bel_refl ?_) | with_reducible assumption | with_reducible refine bel_drew ?_ | with_reducible refine bel_drewN _ ?_ | with_reducible refine bel_alloc _ ?_ | with_reducible refine bel_set ?_ _ ?_ | (with_reducible apply bel_call; with_reducible assumption) | (with_reducible apply bel_owg; with_reducible assumption; (focus omega)) | with_reducible exact Nat.le_refl _ | omega | (simp; done) | (simp; omega))))⟩
  by_cases h3 : (s.size : Int) < t
  · rw [if_pos (.inr (.inr h3))]
    go_enter Try.func14, Try.ntmps14
    go_wp2
    go_ret
    exact ⟨rfl, by (refine bel_out ?_; (focus (repeat' first | (with_reducible refine bel_refl ?_) | with_reducible assumption | with_reducible refine bel_drew ?_ | with_reducible refine bel_drewN _ ?_ | with_reducible refine bel_alloc _ ?_ | with_reducible refine bel_set ?_ _ ?_ | (with_reducible apply bel_call; with_reducible assumption) | (with_reducible apply bel_owg; with_reducible assumption; (focus omega)) | with_reducible exact Nat.le_refl _ | omega | (simp; done) | (simp; omega))))⟩
  rw [if_neg (by omega)]
  obtain ⟨F, rfl⟩ := Int.eq_ofNat_of_zero_le (show 0 ≤ f by omega)
  obtain ⟨T, rfl⟩ := Int.eq_ofNat_of_zero_le (show 0 ≤ t by omega)
  have g1 : (0 : Int) ≤ (F : Int) := by omega
  have g2 : (F : Int) ≤ (T : Int) := by omega
  have g3 : (T : Int) ≤ (s.size : Int) := by omega
  go_enter Try.func14, Try.ntmps14
  go_wp2
  go_ret
  exact ⟨by first | rfl | (apply ret_val; simp), by (refine bel_out ?_; (focus (repeat' first | (with_reducible refine bel_refl ?_) | with_reducible assumption | with_reducible refine bel_drew ?_ | with_reducible refine bel_drewN _ ?_ | with_reducible refine bel_alloc _ ?_ | with_reducible refine bel_set ?_ _ ?_ | (with_reducible apply bel_call; with_reducible assumption) | (with_reducible apply bel_owg; with_reducible assumption; (focus omega)) | with_reducible exact Nat.le_refl _ | omega | (simp; done) | (simp; omega))))⟩
set_option maxHeartbeats 1600000 in
theorem rtext_any (s : ByteArray) (k f t : Int) (w : World) :
    Calls Try.prog 17 #[.string s, .agg #[.int .i64 k, .int .i64 f, .int .i64 t]] w fun e w' => e = .returned (.string (TT s f t)) ∧ Below w.heap.size w w' := by
  have HV : Hid (TT s f t = if f < 0 ∨ t < f ∨ (s.size : Int) < t then ByteArray.empty else s.extract f.toNat t.toNat) := Lib.hid rfl
  rw [HV.out]
  clear HV
  by_cases h1 : f < 0
  · rw [if_pos (.inl h1)]
    go_enter Try.func17, Try.ntmps17
    go_wp2
    go_ret
    exact ⟨rfl, by (refine bel_out ?_; (focus (repeat' first | (with_reducible refine bel_refl ?_) | with_reducible assumption | with_reducible refine bel_drew ?_ | with_reducible refine bel_drewN _ ?_ | with_reducible refine bel_alloc _ ?_ | with_reducible refine bel_set ?_ _ ?_ | (with_reducible apply bel_call; with_reducible assumption) | (with_reducible apply bel_owg; with_reducible assumption; (focus omega)) | with_reducible exact Nat.le_refl _ | omega | (simp; done) | (simp; omega))))⟩
  by_cases h2 : t < f
  · rw [if_pos (.inr (.inl h2))]
    go_enter Try.func17, Try.ntmps17
    go_wp2
    go_ret
    exact ⟨rfl, by (refine bel_out ?_; (focus (repeat' first | (with_reducible refine bel_refl ?_) | with_reducible assumption | with_reducible refine bel_drew ?_ | with_reducible refine bel_drewN _ ?_ | with_reducible refine bel_alloc _ ?_ | with_reducible refine bel_set ?_ _ ?_ | (with_reducible apply bel_call; with_reducible assumption) | (with_reducible apply bel_owg; with_reducible assumption; (focus omega)) | with_reducible exact Nat.le_refl _ | omega | (simp; done) | (simp; omega))))⟩
  by_cases h3 : (s.size : Int) < t
  · rw [if_pos (.inr (.inr h3))]
    go_enter Try.func17, Try.ntmps17
    go_wp2
    go_ret
    exact ⟨rfl, by (refine bel_out ?_; (focus (repeat' first | (with_reducible refine bel_refl ?_) | with_reducible assumption | with_reducible refine bel_drew ?_ | with_reducible refine bel_drewN _ ?_ | with_reducible refine bel_alloc _ ?_ | with_reducible refine bel_set ?_ _ ?_ | (with_reducible apply bel_call; with_reducible assumption) | (with_reducible apply bel_owg; with_reducible assumption; (focus omega)) | with_reducible exact Nat.le_refl _ | omega | (simp; done) | (simp; omega))))⟩
  rw [if_neg (by omega)]
  obtain ⟨F, rfl⟩ := Int.eq_ofNat_of_zero_le (show 0 ≤ f by omega)
  obtain ⟨T, rfl⟩ := Int.eq_ofNat_of_zero_le (show 0 ≤ t by omega)
  have g1 : (0 : Int) ≤ (F : Int) := by omega
  have g2 : (F : Int) ≤ (T : Int) := by omega
  have g3 : (T : Int) ≤ (s.size : Int) := by omega
  go_enter Try.func17, Try.ntmps17
  go_wp2
  go_ret
  exact ⟨by first | rfl | (apply ret_val; simp), by (refine bel_out ?_; (focus (repeat' first | (with_reducible refine bel_refl ?_) | with_reducible assumption | with_reducible refine bel_drew ?_ | with_reducible refine bel_drewN _ ?_ | with_reducible refine bel_alloc _ ?_ | with_reducible refine bel_set ?_ _ ?_ | (with_reducible apply bel_call; with_reducible assumption) | (with_reducible apply bel_owg; with_reducible assumption; (focus omega)) | with_reducible exact Nat.le_refl _ | omega | (simp; done) | (simp; omega))))⟩

theorem ext_cat (s : ByteArray) {a b c : Nat} (h : a ≤ b) (h2 : b ≤ c) : s.extract a b ++ s.extract b c = s.extract a c := by
  apply ByteArray.ext
  simp [Nat.min_eq_left h, Nat.max_eq_right h2]
theorem ext_whole (s : ByteArray) : s.extract 0 s.size = s := by
  apply ByteArray.ext
  simp

set_option maxRecDepth 100000 in
set_option maxHeartbeats 4000000 in
theorem lawcovers_walk (s : ByteArray) (m : Int) (w : World) (hm : w.cell? ⟨0, 0, none⟩ = some (.int .i64 m)) :
    Calls Try.prog 5 #[.string s] w fun e w' => e = .returned (.bool true) ∧ Below w.heap.size w w' := by
  have h0 : 0 < w.heap.size := World.block_lt_of_cell? _ _ hm
  have hx := Below.refl w.heap.size w
  by_cases h1 : (1500 : Int) < (s.size : Int)
  · go_enter Try.func5, Try.ntmps5
    go_wp2_with (first | (go_at_call 9; ((with_reducible refine (known_any m _ ((hx.cell (p := ⟨0, 0, none⟩) h0).trans hm)).mono ?_); rintro e wn ⟨rfl, hbn⟩; replace hx := below_call hx hbn; clear hbn)))
    go_ret
    exact ⟨rfl, hx⟩
  have HA := Lib.hid (scan_any s m w (by omega) hm)
  have HX : Hid (∀ k x, (SC (bl s))[k]? = some x → x.2.1 = pos (SC (bl s)) k ∧ x.2.1 < x.2.2 ∧ x.2.2 ≤ s.size ∧ 1 ≤ x.1 ∧ x.1 ≤ 12) := Lib.hid fun k x h => by
    have := sc_at (bl s) h
    rwa [bl_len] at this
  have HE : Hid (pos (SC (bl s)) (SC (bl s)).length = s.size) := Lib.hid (by rw [sc_end, bl_len])
  have HLN : Hid ((SC (bl s)).length ≤ s.size) := Lib.hid (by have := chain_len (SC_chain (bl s)); rw [bl_len] at this; omega)
  generalize SC (bl s) = S at *
  obtain ⟨N, hN⟩ : ∃ N, N = S.length := ⟨_, rfl⟩
  rw [← hN] at HA HE HLN
  have HN := Lib.hid hN
  have hNs := HLN.out
  clear hN
  go_enter Try.func5, Try.ntmps5
  go_wp2_with (first
    | (go_at_call 10; go_must (refine HA.out.mono ?_; rintro e w1 ⟨A, c, rfl, ho, hb1⟩; clear hx)))
  have HO := Lib.hid fun h => RdT.opened ho.rd h
  clear ho
  go_loopw [5, 6, 7] (fun v5 v6 v7 wr => ∃ k : Nat, k ≤ N ∧ v5 = .int .i64 (pos S k) ∧ v6 = .string (s.extract 0 (pos S k)) ∧ v7 = .int .i64 k ∧ pos S k ≤ s.size ∧ Below w1.heap.size w1 wr) (fun _ _ v7 _ => N - (intOf v7).toNat)
  case atStart => exact ⟨0, Nat.zero_le _, rfl, by
    show _ = Value.string (s.extract 0 0)
    rw [show s.extract 0 0 = (⟨#[]⟩ : ByteArray) by apply ByteArray.ext; simp], rfl, Nat.zero_le _, Below.refl _ _⟩
  case round =>
    obtain ⟨k, hk, rfl, rfl, rfl, hps, hbw⟩ := hrel
    by_cases hlt : k < N
    · obtain ⟨b, off, rfl, hb, hc⟩ := HO.out (by omega)
      obtain ⟨x, hx⟩ : ∃ x, S[k]? = some x := ⟨S[k]'(by rw [← HN.out]; exact hlt), List.getElem?_eq_getElem _⟩
      obtain ⟨p0, p1, p2⟩ := hc k x hx
      obtain ⟨y1, y2, y3, y4, y5⟩ := HX.out k x hx
      have HPS := Lib.hid (pos_succ hx)
      replace p0 := (hbw.cell (p := ⟨b, off + k * 3, none⟩) hb).trans p0
      replace p1 := (hbw.cell (p := ⟨b, off + k * 3 + 1, none⟩) hb).trans p1
      replace p2 := (hbw.cell (p := ⟨b, off + k * 3 + 2, none⟩) hb).trans p2
      clear hc hx
      obtain ⟨x0, x1, x2⟩ := x
      simp only at p0 p1 p2 y1 y2 y3 y4 y5 HPS
      rw [← y1] at hps ⊢
      clear y1
      have HT : Hid (∀ W, Calls Try.prog 14 #[.string s, .agg #[.int .i64 (x0 : Int), .int .i64 (x1 : Int), .int .i64 (x2 : Int)]] W fun e w' => e = .returned (.string (s.extract x1 x2)) ∧ Below W.heap.size W w') := Lib.hid fun W => by
        have := text_any s x0 x1 x2 W
        rwa [TT_in (by omega) y3] at this
      have hcat : s.extract 0 x1 ++ s.extract x1 x2 = s.extract 0 x2 := ext_cat s (Nat.zero_le _) (by omega)
      have z1 : (s.extract 0 x1).size = x1 := by rw [ByteArray.size_extract]; omega
      have z2 : (s.extract x1 x2).size = x2 - x1 := by rw [ByteArray.size_extract]; omega
      generalize s.extract 0 x1 = u1 at *
      generalize s.extract x1 x2 = u2 at *
      have r1 : ¬ 9223372036854775807 < u1.size + u2.size := by omega
      have g0 : (0 : Int) ≤ (k : Int) := by omega
      have g1 : (k : Int) < (N : Int) := by omega
      have g2 : ¬ ((x2 : Int) ≤ (x1 : Int)) := by omega
      have g3 : ¬ ((s.size : Int) < (x2 : Int)) := by omega
      have g4 : ¬ ((x0 : Int) < 1) := by omega
      have g5 : ¬ ((12 : Int) < (x0 : Int)) := by omega
      clear z1 z2 y2 y4 y5 hps
      go_wp2_with (first | (go_at_call 14; ((with_reducible refine (HT.out _).mono ?_); rintro e wn ⟨rfl, hbn⟩; replace hbw := below_call hbw hbn; clear hbn p0 p1 p2)))
      clear r1 hcat
      go_roundw
      case rel => exact ⟨k + 1, by omega, by rw [HPS.out], by rw [HPS.out], by go_num, by rw [HPS.out]; exact y3, hbw⟩
      case measure => simp [intOf]; omega
    · obtain rfl : k = N := by omega
      have e1 := HE.out
      have e2 : s.extract 0 s.size = s := ext_whole s
      have hx := below_call hb1 hbw
      rw [e1, e2]
      go_wp2_with (first | (go_at_call 9; ((with_reducible refine (known_any m _ ((hx.cell (p := ⟨0, 0, none⟩) h0).trans hm)).mono ?_); rintro e wn ⟨rfl, hbn⟩; replace hx := below_call hx hbn; clear hbn)))
      go_ret
      exact ⟨rfl, hx⟩

theorem and3 (x : Int) : bits .and .i64 x 3 = x % 4 := by
  have e : (BitVec.ofInt 64 (3 : Int)).toNat = 3 := by decide
  show IntKind.i64.wrap ((BitVec.ofInt 64 x &&& BitVec.ofInt 64 3).toNat : Int) = _
  rw [BitVec.toNat_and, e, BitVec.toNat_ofInt, show (3 : Nat) = 2 ^ 2 - 1 from rfl, Nat.and_two_pow_sub_one_eq_mod, IntKind.wrap_i64]
  omega
set_option maxRecDepth 100000 in
set_option maxHeartbeats 4000000 in
theorem lawlimit_walk (n m : Int) (w : World) (hm : w.cell? ⟨0, 0, none⟩ = some (.int .i64 m)) :
    Calls Try.prog 8 #[.int .i64 n] w fun e w' => e = .returned (.bool true) ∧ Below w.heap.size w w' := by
  have h0 : 0 < w.heap.size := World.block_lt_of_cell? _ _ hm
  obtain ⟨j, hj, hj4⟩ : ∃ j : Nat, bits .and .i64 n 3 = (j : Int) ∧ j < 4 := by
    rw [and3]
    exact ⟨(n % 4).toNat, by omega, by omega⟩
  have HR : Hid (∀ c : UInt8, ∃ s : ByteArray, s.size = 8192 ∧ ∀ W, Calls Try.prog 19 #[.string ⟨#[c]⟩, .int .i64 8192] W fun e w' => e = .returned (.string s) ∧ Below W.heap.size W w') := Lib.hid fun c =>
    ⟨_, by show (Lib.repeatL [c] 8192).toArray.size = _; simp [Lib.repeatL_length], fun W => Try.strings_Repeat ⟨#[c]⟩ 8192 W (by decide) (show 1 * 8192 ≤ 140737488355328 by decide)⟩
  have HJ : Hid (∃ s : ByteArray, s.size = 8192 ∧ ((j = 0 ∧ ∀ W, Calls Try.prog 19 #[.string ⟨#[97]⟩, .int .i64 8192] W fun e w' => e = .returned (.string s) ∧ Below W.heap.size W w') ∨ (j = 1 ∧ ∀ W, Calls Try.prog 19 #[.string ⟨#[123]⟩, .int .i64 8192] W fun e w' => e = .returned (.string s) ∧ Below W.heap.size W w') ∨ (j = 2 ∧ ∀ W, Calls Try.prog 19 #[.string ⟨#[124]⟩, .int .i64 8192] W fun e w' => e = .returned (.string s) ∧ Below W.heap.size W w') ∨ (j = 3 ∧ ∀ W, Calls Try.prog 19 #[.string ⟨#[10]⟩, .int .i64 8192] W fun e w' => e = .returned (.string s) ∧ Below W.heap.size W w'))) := Lib.hid (by
    have hc : j = 0 ∨ j = 1 ∨ j = 2 ∨ j = 3 := by omega
    rcases hc with rfl | rfl | rfl | rfl
    · obtain ⟨s, h1, h2⟩ := HR.out 97; exact ⟨s, h1, .inl ⟨rfl, h2⟩⟩
    · obtain ⟨s, h1, h2⟩ := HR.out 123; exact ⟨s, h1, .inr (.inl ⟨rfl, h2⟩)⟩
    · obtain ⟨s, h1, h2⟩ := HR.out 124; exact ⟨s, h1, .inr (.inr (.inl ⟨rfl, h2⟩))⟩
    · obtain ⟨s, h1, h2⟩ := HR.out 10; exact ⟨s, h1, .inr (.inr (.inr ⟨rfl, h2⟩))⟩)
  obtain ⟨s, hs, hcase⟩ := HJ.out
  clear HJ HR
  have HA : Hid (∀ W, W.cell? ⟨0, 0, none⟩ = some (.int .i64 m) → Calls Try.prog 10 #[.string s] W fun e w' => ∃ A c, e = .returned (.tuple #[.slice A (SC (bl s)).length c, .int .i64 0]) ∧ OwR RT 3 w' W.heap.size 31 A (SC (bl s)).length c (SC (bl s)) ∧ Below W.heap.size W w') := Lib.hid fun W hW => scan_any s m W (by omega) hW
  have HB : Hid (∀ W, Calls Try.prog 10 #[.string (s ++ ⟨#[97]⟩)] W fun e w' => e = .returned (.tuple #[.slice none 0 0, .int .i64 3]) ∧ W = w') := Lib.hid fun W => scan_big _ W (by rw [ByteArray.size_append, hs]; decide) (by rw [ByteArray.size_append, hs]; decide)
  have HN0 := sc_some (bl s) (by rw [bl_len, hs]; decide)
  have HE : Hid (pos (SC (bl s)) (SC (bl s)).length = 8192) := Lib.hid (by rw [sc_end, bl_len, hs])
  have HLN := chain_len (SC_chain (bl s))
  rw [bl_len, hs] at HLN
  generalize SC (bl s) = S at *
  obtain ⟨N, hN⟩ : ∃ N, S.length = N + 1 := ⟨S.length - 1, by omega⟩
  rw [hN] at HA HE
  have hlast : ∃ x, S[N]? = some x ∧ x.2.2 = 8192 := by
    have hx : S[N]? = some (S[N]'(by omega)) := List.getElem?_eq_getElem _
    exact ⟨_, hx, by rw [← pos_succ hx]; exact HE.out⟩
  have HL := Lib.hid hlast
  have hN9 : N ≤ 8192 := by omega
  have r1 : ¬ 9223372036854775807 < s.size + 1 := by omega
  have r2 : ¬ 9223372036854775807 < 8192 + 1 := by omega
  have n1 : IntKind.i64.wrap ((N : Int) + 1 - 1) = (N : Int) := by rw [IntKind.wrap_i64]; omega
  have n2 : (N : Int) + 1 - 1 = (N : Int) := by omega
  have n3 : (0 : Int) < (N : Int) + 1 := by omega
  have n4 : (N : Int) < (N : Int) + 1 := by omega
  have n4' : (N : Int) < ((N + 1 : Nat) : Int) := by omega
  have n5 : (0 : Int) ≤ (N : Int) := by omega
  clear hs hj4 HLN hN HE hlast HN0
  have hx := Below.refl w.heap.size w
  rcases hcase with ⟨rfl, HR⟩ | ⟨rfl, HR⟩ | ⟨rfl, HR⟩ | ⟨rfl, HR⟩
  all_goals
    have HRH := Lib.hid HR
    clear HR
    go_enter Try.func8, Try.ntmps8
    go_wp2_with (first
      | (go_at_call 19; ((with_reducible refine (HRH.out _).mono ?_); rintro e w1 ⟨rfl, hb1⟩; have hx1 := below_call ((Below.refl w.heap.size w).alloc (Nat.le_refl _) _) hb1; have hm1 := (hx1.cell (p := ⟨0, 0, none⟩) h0).trans hm))
      | (go_at_call 10; ((with_reducible refine (HA.out _ hm1).mono ?_); rintro e w2 ⟨A, c, rfl, ho, hb2⟩; (have hx2 := below_call hx1 hb2); obtain ⟨b, off, rfl, hb, hc⟩ := RdT.opened ho.rd (Nat.succ_pos _); obtain ⟨xx, hxx, h8⟩ := HL.out; obtain ⟨p0, p1, p2⟩ := hc N xx hxx; rw [h8] at p2; clear hc hxx h8 p0 p1 ho))
      | (go_at_call 10; ((with_reducible refine (HB.out _).mono ?_); rintro e w3 ⟨rfl, rfl⟩))
      | (go_at_call 9; go_must (refine (known_any m _ ((hx2.cell (p := ⟨0, 0, none⟩) h0).trans hm)).mono ?_; rintro e w4 ⟨rfl, hb4⟩)))
    go_ret
    exact ⟨rfl, below_call hx2 hb4⟩
end Go.Proofs.Ytpcnfblpoepmbaa
