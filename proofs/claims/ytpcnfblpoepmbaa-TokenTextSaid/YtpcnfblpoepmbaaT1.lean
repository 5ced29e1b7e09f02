/- The walks of run, names, tag, angle and first. -/
import Derived.Test.YtpcnfblpoepmbaaGr
import Derived.Test.YtpcnfblpoepmbaaProg
import Derived.Test.YtpcnfblpoepmbaaShelf
import Derived.Test.YtpcnfblpoepmbaaTP3
import Derived.WalkSmall
import Derived.Deep.LoopGhost
import Derived.BigQuiet
import Derived.Deep.QuietTactic
namespace Go.Proofs.Ytpcnfblpoepmbaa
open Go.RowKit
set_option linter.unusedSimpArgs false
set_option linter.unusedVariables false

/-- the bytes of a string -/
abbrev bl (s : ByteArray) : List UInt8 := s.data.toList
theorem bl_len (s : ByteArray) : (bl s).length = s.size := by simp
theorem bl_drop {s : ByteArray} {k : Nat} (h : k < s.size) : (bl s).drop k = s[k] :: (bl s).drop (k + 1) := by
  have h2 : k < (bl s).length := by rw [bl_len]; exact h
  rw [List.drop_eq_getElem_cons h2]
  rfl
theorem bl_end (s : ByteArray) : (bl s).drop s.size = [] := by rw [← bl_len, List.drop_length]
theorem bl_ext (s : ByteArray) (a : Nat) : bl (s.extract a s.size) = (bl s).drop a := Lib.extract_to_end s a
theorem u8_eq {a c : UInt8} : ((a.toNat : Int) == (c.toNat : Int)) = decide (a = c) := by
  by_cases h : a = c
  · subst h; simp
  · have : ¬ a.toNat = c.toNat := fun e => h (UInt8.toNat_inj.1 e)
    simp [h]
    omega

theorem run_any (s : ByteArray) (c : UInt8) (C : Int) (w : World) (hC : C = (c.toNat : Int)) (hs : s.size ≤ 8796093022207) :
    Calls Try.prog 30 #[.string s, .int .u8 C] w fun e w' => e = .returned (.int .i64 (runL c (bl s) : Int)) ∧ w' = w := by
  have HC := Lib.hid hC
  clear hC
  go_enter Try.func30, Try.ntmps30
  go_wp2
  go_loop [5] (fun v => ∃ k : Nat, k ≤ s.size ∧ v = .int .i64 k ∧ Hid (k + runL c ((bl s).drop k) = runL c (bl s))) (fun v => s.size - (intOf v).toNat)
  case atStart => exact ⟨0, Nat.zero_le _, rfl, Lib.hid (by simp)⟩
  case round =>
    obtain ⟨k, hk, rfl, HK⟩ := hrel
    by_cases hlt : k < s.size
    · have e1 := bl_drop hlt
      by_cases hc : s[k] = c
      · have hq : ((s[k].toNat : Int) == C) = true := by rw [HC.out, u8_eq, hc]; simp
        have hq2 : (s[k].toNat : Int) = C := by rw [HC.out, hc]
        have HK2 : Hid (k + 1 + runL c ((bl s).drop (k + 1)) = runL c (bl s)) := by
          have h := HK.out
          rw [e1, runL, if_pos hc] at h
          exact Lib.hid (by omega)
        clear HK e1 hc
        go_wp2
        go_round
        case rel => exact ⟨k + 1, by omega, by go_num, HK2⟩
        case measure => simp [intOf]; omega
      · have hq : ((s[k].toNat : Int) == C) = false := by rw [HC.out, u8_eq]; simpa using hc
        have HK2 : Hid (k = runL c (bl s)) := by
          have h := HK.out
          rw [e1, runL, if_neg hc] at h
          exact Lib.hid (by omega)
        clear HK e1 hc
        go_wp2
        go_ret
        exact ⟨by rw [← HK2.out]; rfl, rfl⟩
    · obtain rfl : k = s.size := by omega
      have HK2 : Hid (s.size = runL c (bl s)) := by
        have h := HK.out
        rw [bl_end] at h
        exact Lib.hid h
      go_wp2
      go_ret
      exact ⟨by rw [← HK2.out]; rfl, rfl⟩

abbrev B0 (l : List UInt8) : ByteArray := ⟨l.toArray⟩
theorem names_any (w : World) :
    Calls Try.prog 33 #[] w fun e w' => e = .returned (.agg #[.string ⟨#[110, 111, 105, 110, 99, 108, 117, 100, 101]⟩, .string ⟨#[105, 110, 99, 108, 117, 100, 101, 111, 110, 108, 121]⟩, .string ⟨#[111, 110, 108, 121, 105, 110, 99, 108, 117, 100, 101]⟩]) ∧ Below w.heap.size w w' := by
  go_enter Try.func33, Try.ntmps33
  go_wp2
  refine bodyPost_ret (v := .agg #[.string ⟨#[110, 111, 105, 110, 99, 108, 117, 100, 101]⟩, .string ⟨#[105, 110, 99, 108, 117, 100, 101, 111, 110, 108, 121]⟩, .string ⟨#[111, 110, 108, 121, 105, 110, 99, 108, 117, 100, 101]⟩]) ?_ rfl ⟨rfl, ?_⟩
  · simp [results, Try.results33, go_sem]
  · (refine bel_out ?_; (focus (repeat' first | (with_reducible refine bel_refl ?_) | with_reducible assumption | with_reducible refine bel_drew ?_ | with_reducible refine bel_drewN _ ?_ | with_reducible refine bel_alloc _ ?_ | with_reducible refine bel_set ?_ _ ?_ | (with_reducible apply bel_call; with_reducible assumption) | (with_reducible apply bel_owg; with_reducible assumption; (focus omega)) | with_reducible exact Nat.le_refl _ | omega | (simp; done) | (simp; omega))))

theorem hp_any (s p : ByteArray) (w : World) : Calls Try.prog 24 #[.string s, .string p] w fun e w' => e = .returned (.bool (pr (bl p) (bl s))) ∧ w' = w := Try.strings_HasPrefix s p w

theorem ba_cat (a b : List UInt8) : (⟨a.toArray⟩ : ByteArray) ++ ⟨b.toArray⟩ = ⟨(a ++ b).toArray⟩ := by
  apply ByteArray.ext
  simp

set_option maxRecDepth 100000 in
set_option maxHeartbeats 1600000 in
/-- tag, at an opening of whatever text -/
theorem tag_gen (s op x1 x2 x3 y1 y2 y3 : ByteArray) (w : World) (hop : op.size ≤ 2)
    (e1 : op ++ ⟨#[110, 111, 105, 110, 99, 108, 117, 100, 101]⟩ = x1) (e2 : op ++ ⟨#[105, 110, 99, 108, 117, 100, 101, 111, 110, 108, 121]⟩ = x2) (e3 : op ++ ⟨#[111, 110, 108, 121, 105, 110, 99, 108, 117, 100, 101]⟩ = x3)
    (f1 : x1 ++ ⟨#[62]⟩ = y1) (f2 : x2 ++ ⟨#[62]⟩ = y2) (f3 : x3 ++ ⟨#[62]⟩ = y3) :
    Calls Try.prog 22 #[.string s, .string op] w fun e w' =>
      e = .returned (if pr (bl y1) (bl s) then .tuple #[.int .i64 1, .int .i64 y1.size] else if pr (bl y2) (bl s) then .tuple #[.int .i64 2, .int .i64 y2.size] else if pr (bl y3) (bl s) then .tuple #[.int .i64 3, .int .i64 y3.size] else .tuple #[.int .i64 0, .int .i64 0]) ∧ Below w.heap.size w w' := by
  have hx := Below.refl w.heap.size w
  have z1 : x1.size = op.size + 9 := by rw [← e1, ByteArray.size_append]; rfl
  have z2 : x2.size = op.size + 11 := by rw [← e2, ByteArray.size_append]; rfl
  have z3 : x3.size = op.size + 11 := by rw [← e3, ByteArray.size_append]; rfl
  have HP1 := Lib.hid fun W => hp_any s y1 W
  have HP2 := Lib.hid fun W => hp_any s y2 W
  have HP3 := Lib.hid fun W => hp_any s y3 W
  obtain ⟨V, hV⟩ : ∃ V : Value, V = if pr (bl y1) (bl s) then .tuple #[.int .i64 1, .int .i64 y1.size] else if pr (bl y2) (bl s) then .tuple #[.int .i64 2, .int .i64 y2.size] else if pr (bl y3) (bl s) then .tuple #[.int .i64 3, .int .i64 y3.size] else .tuple #[.int .i64 0, .int .i64 0] := ⟨_, rfl⟩
  rw [← hV]
  have HV := Lib.hid hV
  clear hV
  generalize pr (bl y1) (bl s) = b1 at *
  generalize pr (bl y2) (bl s) = b2 at *
  generalize pr (bl y3) (bl s) = b3 at *
  have i0 : ∀ W, (Instr.index 61 (.agg #[.string ⟨#[110, 111, 105, 110, 99, 108, 117, 100, 101]⟩, .string ⟨#[105, 110, 99, 108, 117, 100, 101, 111, 110, 108, 121]⟩, .string ⟨#[111, 110, 108, 121, 105, 110, 99, 108, 117, 100, 101]⟩]) (.int .i64 0)).run Try.prog W = .ok (.string ⟨#[110, 111, 105, 110, 99, 108, 117, 100, 101]⟩) W := fun _ => by kernel_rfl
  have i1 : ∀ W, (Instr.index 61 (.agg #[.string ⟨#[110, 111, 105, 110, 99, 108, 117, 100, 101]⟩, .string ⟨#[105, 110, 99, 108, 117, 100, 101, 111, 110, 108, 121]⟩, .string ⟨#[111, 110, 108, 121, 105, 110, 99, 108, 117, 100, 101]⟩]) (.int .i64 1)).run Try.prog W = .ok (.string ⟨#[105, 110, 99, 108, 117, 100, 101, 111, 110, 108, 121]⟩) W := fun _ => by kernel_rfl
  have i2 : ∀ W, (Instr.index 61 (.agg #[.string ⟨#[110, 111, 105, 110, 99, 108, 117, 100, 101]⟩, .string ⟨#[105, 110, 99, 108, 117, 100, 101, 111, 110, 108, 121]⟩, .string ⟨#[111, 110, 108, 121, 105, 110, 99, 108, 117, 100, 101]⟩]) (.int .i64 2)).run Try.prog W = .ok (.string ⟨#[111, 110, 108, 121, 105, 110, 99, 108, 117, 100, 101]⟩) W := fun _ => by kernel_rfl
  have r1 : ¬ 9223372036854775807 < op.size + 9 := by omega
  have r2 : ¬ 9223372036854775807 < op.size + 11 := by omega
  have r3 : ¬ 9223372036854775807 < x1.size + 1 := by omega
  have r4 : ¬ 9223372036854775807 < x2.size + 1 := by omega
  have r5 : ¬ 9223372036854775807 < x3.size + 1 := by omega
  clear z1 z2 z3
  go_enter Try.func22, Try.ntmps22
  go_wp2_with (first | (go_at_call 33; ((with_reducible refine (names_any _).mono ?_); rintro e wn ⟨rfl, hbn⟩; replace hx := below_call hx hbn; clear hbn)))
  go_loop [10] (fun v => v = .int .i64 0 ∨ (v = .int .i64 1 ∧ Hid (b1 = false)) ∨ (v = .int .i64 2 ∧ Hid (b1 = false ∧ b2 = false)) ∨ (v = .int .i64 3 ∧ Hid (b1 = false ∧ b2 = false ∧ b3 = false))) (fun v => 3 - (intOf v).toNat)
  case atStart => exact .inl rfl
  case round =>
    rcases hrel with rfl | ⟨rfl, H⟩ | ⟨rfl, H⟩ | ⟨rfl, H⟩
    · cases b1
      · go_wp2_with (first | (go_at_call 24; ((with_reducible refine (HP1.out _).mono ?_); rintro e wn ⟨rfl, rfl⟩)))
        go_round
        case rel => exact .inr (.inl ⟨rfl, Lib.hid (by simp)⟩)
        case measure => simp [intOf]
      · go_wp2_with (first | (go_at_call 24; ((with_reducible refine (HP1.out _).mono ?_); rintro e wn ⟨rfl, rfl⟩)))
        go_ret2
        exact ⟨by rw [HV.out]; rfl, hx⟩
    · obtain rfl := H.out
      cases b2
      · go_wp2_with (first | (go_at_call 24; ((with_reducible refine (HP2.out _).mono ?_); rintro e wn ⟨rfl, rfl⟩)))
        go_round
        case rel => exact .inr (.inr (.inl ⟨rfl, Lib.hid (by simp)⟩))
        case measure => simp [intOf]
      · go_wp2_with (first | (go_at_call 24; ((with_reducible refine (HP2.out _).mono ?_); rintro e wn ⟨rfl, rfl⟩)))
        go_ret2
        exact ⟨by rw [HV.out]; rfl, hx⟩
    · obtain ⟨rfl, rfl⟩ := H.out
      cases b3
      · go_wp2_with (first | (go_at_call 24; ((with_reducible refine (HP3.out _).mono ?_); rintro e wn ⟨rfl, rfl⟩)))
        go_round
        case rel => exact .inr (.inr (.inr ⟨rfl, Lib.hid (by simp)⟩))
        case measure => simp [intOf]
      · go_wp2_with (first | (go_at_call 24; ((with_reducible refine (HP3.out _).mono ?_); rintro e wn ⟨rfl, rfl⟩)))
        go_ret2
        exact ⟨by rw [HV.out]; rfl, hx⟩
    · obtain ⟨rfl, rfl, rfl⟩ := H.out
      go_wp2
      go_ret2
      exact ⟨by rw [HV.out]; rfl, hx⟩

/-- two numbers as a function's results -/
def two (p : Nat × Nat) : Value := .tuple #[.int .i64 (p.1 : Int), .int .i64 (p.2 : Int)]
theorem tagO_any (s : ByteArray) (w : World) :
    Calls Try.prog 22 #[.string s, .string ⟨#[60]⟩] w fun e w' => e = .returned (two (tagO (bl s))) ∧ Below w.heap.size w w' := by
  refine (tag_gen s ⟨#[60]⟩ _ _ _ _ _ _ w (by decide) rfl rfl rfl rfl rfl rfl).mono ?_
  rintro e w' ⟨rfl, hb⟩
  refine ⟨?_, hb⟩
  congr 1
  unfold tagO
  have q1 : bl ((⟨#[60]⟩ : ByteArray) ++ ⟨#[110, 111, 105, 110, 99, 108, 117, 100, 101]⟩ ++ ⟨#[62]⟩) = o1 := by simp
  have q2 : bl ((⟨#[60]⟩ : ByteArray) ++ ⟨#[105, 110, 99, 108, 117, 100, 101, 111, 110, 108, 121]⟩ ++ ⟨#[62]⟩) = o2 := by simp
  have q3 : bl ((⟨#[60]⟩ : ByteArray) ++ ⟨#[111, 110, 108, 121, 105, 110, 99, 108, 117, 100, 101]⟩ ++ ⟨#[62]⟩) = o3 := by simp
  rw [q1, q2, q3]
  split
  · rfl
  · split
    · rfl
    · split <;> rfl
theorem tagC_any (s : ByteArray) (w : World) :
    Calls Try.prog 22 #[.string s, .string ⟨#[60, 47]⟩] w fun e w' => e = .returned (two (tagC (bl s))) ∧ Below w.heap.size w w' := by
  refine (tag_gen s ⟨#[60, 47]⟩ _ _ _ _ _ _ w (by decide) rfl rfl rfl rfl rfl rfl).mono ?_
  rintro e w' ⟨rfl, hb⟩
  refine ⟨?_, hb⟩
  congr 1
  unfold tagC
  have q1 : bl ((⟨#[60, 47]⟩ : ByteArray) ++ ⟨#[110, 111, 105, 110, 99, 108, 117, 100, 101]⟩ ++ ⟨#[62]⟩) = c1 := by simp
  have q2 : bl ((⟨#[60, 47]⟩ : ByteArray) ++ ⟨#[105, 110, 99, 108, 117, 100, 101, 111, 110, 108, 121]⟩ ++ ⟨#[62]⟩) = c2 := by simp
  have q3 : bl ((⟨#[60, 47]⟩ : ByteArray) ++ ⟨#[111, 110, 108, 121, 105, 110, 99, 108, 117, 100, 101]⟩ ++ ⟨#[62]⟩) = c3 := by simp
  rw [q1, q2, q3]
  split
  · rfl
  · split
    · rfl
    · split <;> rfl

set_option maxHeartbeats 1600000 in
theorem angle_any (s : ByteArray) (m : Int) (w : World) (hs : s.size ≤ 4294967280) (hm : w.cell? ⟨0, 0, none⟩ = some (.int .i64 m)) :
    Calls Try.prog 29 #[.string s] w fun e w' => e = .returned (two (ANG (bl s))) ∧ Below w.heap.size w w' := by
  have hx := Below.refl w.heap.size w
  have h0 : 0 < w.heap.size := World.block_lt_of_cell? _ _ hm
  obtain ⟨R, hR⟩ : ∃ R, R = ANG (bl s) := ⟨_, rfl⟩
  have HR := Lib.hid hR
  rw [← hR]
  clear hR
  have HP1 : Hid (∀ W, Calls Try.prog 24 #[.string s, .string ⟨#[60, 33, 45, 45]⟩] W fun e w' => e = .returned (.bool (pr sCm (bl s))) ∧ w' = W) := Lib.hid fun W => hp_any s ⟨#[60, 33, 45, 45]⟩ W
  have HP2 : Hid (∀ W, Calls Try.prog 24 #[.string s, .string ⟨#[60, 110, 111, 119, 105, 107, 105, 62]⟩] W fun e w' => e = .returned (.bool (pr sNo (bl s))) ∧ w' = W) := Lib.hid fun W => hp_any s ⟨#[60, 110, 111, 119, 105, 107, 105, 62]⟩ W
  have HI1 : Hid (∀ W, W.cell? ⟨0, 0, none⟩ = some (.int .i64 m) → Calls Try.prog 39 #[.string (s.extract 4 s.size), .string ⟨#[45, 45, 62]⟩] W fun e w' => e = .returned (.int .i64 (Lib.index ((bl s).drop 4) sCe)) ∧ w' = W) := Lib.hid fun W hW => by
    have := Try.strings_Index (s.extract 4 s.size) ⟨#[45, 45, 62]⟩ m W (by rw [ByteArray.size_extract]; omega) hW
    rw [Lib.extract_to_end] at this
    exact this
  have HI2 : Hid (∀ W, W.cell? ⟨0, 0, none⟩ = some (.int .i64 m) → Calls Try.prog 39 #[.string (s.extract 8 s.size), .string ⟨#[60, 47, 110, 111, 119, 105, 107, 105, 62]⟩] W fun e w' => e = .returned (.int .i64 (Lib.index ((bl s).drop 8) sNe)) ∧ w' = W) := Lib.hid fun W hW => by
    have := Try.strings_Index (s.extract 8 s.size) ⟨#[60, 47, 110, 111, 119, 105, 107, 105, 62]⟩ m W (by rw [ByteArray.size_extract]; omega) hW
    rw [Lib.extract_to_end] at this
    exact this
  have hlen := bl_len s
  by_cases b1 : pr sCm (bl s) = true
  · have h4 : 4 ≤ s.size := by have := pr_len b1; simpa using this
    have h4' : (4 : Int) ≤ (s.size : Int) := by omega
    rw [b1] at HP1
    by_cases hi : Lib.index ((bl s).drop 4) sCe < 0
    · have HV : Hid (R = (9, s.size)) := Lib.hid (by rw [HR.out]; unfold ANG; rw [if_pos b1, if_pos hi, hlen])
      have hi2 : ¬ (0 ≤ Lib.index ((bl s).drop 4) sCe) := by omega
      generalize Lib.index ((bl s).drop 4) sCe = k at *
      clear b1 HP2 HI2 hlen h4
      go_enter Try.func29, Try.ntmps29
      go_wp2_with (first
        | (go_at_call 24; ((with_reducible refine (HP1.out _).mono ?_); rintro e wn ⟨rfl, rfl⟩))
        | (go_at_call 39; ((with_reducible refine (HI1.out _ hm).mono ?_); rintro e wn ⟨rfl, rfl⟩)))
      go_ret2
      exact ⟨by rw [HV.out]; rfl, hx⟩
    · obtain ⟨k, hk⟩ : ∃ k : Nat, Lib.index ((bl s).drop 4) sCe = (k : Int) := ⟨(Lib.index ((bl s).drop 4) sCe).toNat, by omega⟩
      have hkl := ix_len hk
      have HV : Hid (R = (9, 4 + k + 3)) := Lib.hid (by rw [HR.out]; unfold ANG; rw [if_pos b1, if_neg hi, hk]; rfl)
      rw [hk] at HI1
      have hkb : k ≤ s.size := by rw [List.length_drop, hlen] at hkl; omega
      have hk0 : (0 : Int) ≤ (k : Int) := by omega
      have e1 : IntKind.i64.wrap (4 + (k : Int)) = 4 + (k : Int) := by rw [IntKind.wrap_i64]; omega
      have e2 : IntKind.i64.wrap (4 + (k : Int) + 3) = ((4 + k + 3 : Nat) : Int) := by rw [IntKind.wrap_i64]; omega
      clear b1 HP2 HI2 hlen h4 hkl hi hk
      go_enter Try.func29, Try.ntmps29
      go_wp2_with (first
        | (go_at_call 24; ((with_reducible refine (HP1.out _).mono ?_); rintro e wn ⟨rfl, rfl⟩))
        | (go_at_call 39; ((with_reducible refine (HI1.out _ hm).mono ?_); rintro e wn ⟨rfl, rfl⟩)))
      go_ret2
      exact ⟨by rw [HV.out]; simp [two], hx⟩
  · have b1' : pr sCm (bl s) = false := by simpa using b1
    rw [b1'] at HP1
    by_cases b2 : pr sNo (bl s) = true ∧ 0 ≤ Lib.index ((bl s).drop 8) sNe
    · obtain ⟨k, hk⟩ : ∃ k : Nat, Lib.index ((bl s).drop 8) sNe = (k : Int) := ⟨(Lib.index ((bl s).drop 8) sNe).toNat, by omega⟩
      have HV : Hid (R = (10, 8 + k + 9)) := Lib.hid (by rw [HR.out]; unfold ANG; rw [if_neg b1, if_pos b2, hk]; rfl)
      have h8 : 8 ≤ s.size := by have := pr_len b2.1; simpa using this
      have h8' : (8 : Int) ≤ (s.size : Int) := by omega
      have hkl := ix_len hk
      rw [hk] at HI2
      rw [b2.1] at HP2
      have hkb : k ≤ s.size := by rw [List.length_drop, hlen] at hkl; omega
      have hk0 : (0 : Int) ≤ (k : Int) := by omega
      clear b1 b1' b2 HI1 hlen h8 hkl hk
      go_enter Try.func29, Try.ntmps29
      go_wp2_with (first
        | (go_at_call 24; ((with_reducible refine (HP1.out _).mono ?_); rintro e wn ⟨rfl, rfl⟩))
        | (go_at_call 24; ((with_reducible refine (HP2.out _).mono ?_); rintro e wn ⟨rfl, rfl⟩))
        | (go_at_call 39; ((with_reducible refine (HI2.out _ hm).mono ?_); rintro e wn ⟨rfl, rfl⟩)))
      go_ret2
      exact ⟨by rw [HV.out]; simp [two], hx⟩
    · have HV : Hid (R = if 0 < (tagO (bl s)).2 then (11, (tagO (bl s)).2) else if 0 < (tagC (bl s)).2 then (12, (tagC (bl s)).2) else (0, 0)) := Lib.hid (by rw [HR.out]; unfold ANG; rw [if_neg b1, if_neg b2])
      have HTO : Hid (∀ W, Calls Try.prog 22 #[.string s, .string ⟨#[60]⟩] W fun e w' => e = .returned (.tuple #[.int .i64 ((tagO (bl s)).1 : Int), .int .i64 ((tagO (bl s)).2 : Int)]) ∧ Below W.heap.size W w') := Lib.hid fun W => tagO_any s W
      have HTC : Hid (∀ W, Calls Try.prog 22 #[.string s, .string ⟨#[60, 47]⟩] W fun e w' => e = .returned (.tuple #[.int .i64 ((tagC (bl s)).1 : Int), .int .i64 ((tagC (bl s)).2 : Int)]) ∧ Below W.heap.size W w') := Lib.hid fun W => tagC_any s W
      generalize tagO (bl s) = P at *
      generalize tagC (bl s) = Q at *
      have hsel : (pr sNo (bl s) = true ∧ ¬ 0 ≤ Lib.index ((bl s).drop 8) sNe ∧ (8 : Int) ≤ (s.size : Int)) ∨ pr sNo (bl s) = false := by
        cases h : pr sNo (bl s)
        · exact .inr rfl
        · have := pr_len h
          exact .inl ⟨rfl, fun h2 => b2 ⟨h, h2⟩, by rw [hlen] at this; simp at this; omega⟩
      clear b1 b1' b2 HI1 hlen
      generalize Lib.index ((bl s).drop 8) sNe = k at *
      generalize pr sNo (bl s) = b at *
      have hpq : (0 < P.2 ∧ (0 : Int) < (P.2 : Int)) ∨ (¬ 0 < P.2 ∧ ¬ (0 : Int) < (P.2 : Int) ∧ 0 < Q.2 ∧ (0 : Int) < (Q.2 : Int)) ∨ (¬ 0 < P.2 ∧ ¬ (0 : Int) < (P.2 : Int) ∧ ¬ 0 < Q.2 ∧ ¬ (0 : Int) < (Q.2 : Int)) := by omega
      rcases hsel with ⟨rfl, hk, h8⟩ | rfl <;> rcases hpq with ⟨p1, p2⟩ | ⟨p1, p2, p3, p4⟩ | ⟨p1, p2, p3, p4⟩
      all_goals
        go_enter Try.func29, Try.ntmps29
        go_wp2_with (first
          | (go_at_call 24; ((with_reducible refine (HP1.out _).mono ?_); rintro e wn ⟨rfl, rfl⟩))
          | (go_at_call 24; ((with_reducible refine (HP2.out _).mono ?_); rintro e wn ⟨rfl, rfl⟩))
          | (go_at_call 22; ((with_reducible refine (HTO.out _).mono ?_); rintro e wn ⟨rfl, hbn⟩; replace hx := below_call hx hbn; clear hbn))
          | (go_at_call 22; ((with_reducible refine (HTC.out _).mono ?_); rintro e wn ⟨rfl, hbn⟩; replace hx := below_call hx hbn; clear hbn))
          | (go_at_call 39; ((with_reducible refine (HI2.out _ hm).mono ?_); rintro e wn ⟨rfl, rfl⟩)))
        go_ret2
        exact ⟨by rw [HV.out]; simp [two, *], hx⟩

set_option maxHeartbeats 4000000 in
theorem first_any (s : ByteArray) (m : Int) (w : World) (h1 : 0 < s.size) (hs : s.size ≤ 4294967280) (hm : w.cell? ⟨0, 0, none⟩ = some (.int .i64 m)) :
    Calls Try.prog 20 #[.string s] w fun e w' => e = .returned (two (TK (bl s))) ∧ Below w.heap.size w w' := by
  have hx := Below.refl w.heap.size w
  have e0 : bl s = s[0] :: (bl s).drop 1 := by have := bl_drop h1; simpa using this
  have h1' : (0 : Int) < (s.size : Int) := by omega
  have HA : Hid (∀ W, W.cell? ⟨0, 0, none⟩ = some (.int .i64 m) → Calls Try.prog 29 #[.string s] W fun e w' => e = .returned (.tuple #[.int .i64 ((ANG (bl s)).1 : Int), .int .i64 ((ANG (bl s)).2 : Int)]) ∧ Below W.heap.size W w') := Lib.hid fun W hW => angle_any s m W hs hW
  have HR1 : Hid (∀ W, Calls Try.prog 30 #[.string s, .int .u8 123] W fun e w' => e = .returned (.int .i64 (runL 123 (bl s) : Int)) ∧ w' = W) := Lib.hid fun W => run_any s 123 123 W rfl (by omega)
  have HR2 : Hid (∀ W, Calls Try.prog 30 #[.string s, .int .u8 125] W fun e w' => e = .returned (.int .i64 (runL 125 (bl s) : Int)) ∧ w' = W) := Lib.hid fun W => run_any s 125 125 W rfl (by omega)
  have HR3 : Hid (∀ W, Calls Try.prog 30 #[.string s, .int .u8 91] W fun e w' => e = .returned (.int .i64 (runL 91 (bl s) : Int)) ∧ w' = W) := Lib.hid fun W => run_any s 91 91 W rfl (by omega)
  have HR4 : Hid (∀ W, Calls Try.prog 30 #[.string s, .int .u8 93] W fun e w' => e = .returned (.int .i64 (runL 93 (bl s) : Int)) ∧ w' = W) := Lib.hid fun W => run_any s 93 93 W rfl (by omega)
  have HT : Hid (∀ c : UInt8, s[0] = c → TK (bl s) = if c = 60 then ANG (bl s)
    else if c = 123 then (if 2 ≤ runL 123 (bl s) then (3, runL 123 (bl s)) else (0, 0))
    else if c = 125 then (if 2 ≤ runL 125 (bl s) then (4, runL 125 (bl s)) else (0, 0))
    else if c = 91 then (if 2 ≤ runL 91 (bl s) then (5, 2) else (0, 0))
    else if c = 93 then (if 2 ≤ runL 93 (bl s) then (6, 2) else (0, 0))
    else if c = 124 then (7, 1)
    else if c = 61 then (8, 1)
    else if c = 10 then (2, 1)
    else (0, 0)) := Lib.hid fun c hc => by
      have e2 : bl s = c :: (bl s).drop 1 := by rw [← hc]; exact e0
      rw [e2]
      rfl
  generalize TK (bl s) = T at *
  generalize ANG (bl s) = A at *
  generalize runL 123 (bl s) = k1 at *
  generalize runL 125 (bl s) = k2 at *
  generalize runL 91 (bl s) = k3 at *
  generalize runL 93 (bl s) = k4 at *
  clear e0
  by_cases c1' : s[0] = 60
  · have q : (s[0].toNat : Int) = 60 := by rw [c1']; rfl
    have HV := Lib.hid (HT.out 60 c1')
    clear c1'
    go_enter Try.func20, Try.ntmps20
    go_wp2_with (first | (go_at_call 29; ((with_reducible refine (HA.out _ hm).mono ?_); rintro e wn ⟨rfl, hbn⟩; replace hx := below_call hx hbn; clear hbn)))
    go_ret2
    exact ⟨by rw [HV.out]; rfl, hx⟩
  by_cases c2' : s[0] = 123
  · have q : (s[0].toNat : Int) = 123 := by rw [c2']; rfl
    have HV := Lib.hid (HT.out 123 c2')
    clear c1' c2'
    by_cases hk : 2 ≤ k1
    all_goals
      have hk' := hk
      go_enter Try.func20, Try.ntmps20
      go_wp2_with (first | (go_at_call 30; ((with_reducible refine (HR1.out _).mono ?_); rintro e wn ⟨rfl, rfl⟩)))
      go_ret2
      exact ⟨by rw [HV.out]; simp [two, hk'], hx⟩
  by_cases c3' : s[0] = 125
  · have q : (s[0].toNat : Int) = 125 := by rw [c3']; rfl
    have HV := Lib.hid (HT.out 125 c3')
    clear c1' c2' c3'
    by_cases hk : 2 ≤ k2
    all_goals
      have hk' := hk
      go_enter Try.func20, Try.ntmps20
      go_wp2_with (first | (go_at_call 30; ((with_reducible refine (HR2.out _).mono ?_); rintro e wn ⟨rfl, rfl⟩)))
      go_ret2
      exact ⟨by rw [HV.out]; simp [two, hk'], hx⟩
  by_cases c4' : s[0] = 91
  · have q : (s[0].toNat : Int) = 91 := by rw [c4']; rfl
    have HV := Lib.hid (HT.out 91 c4')
    clear c1' c2' c3' c4'
    by_cases hk : 2 ≤ k3
    all_goals
      have hk' := hk
      go_enter Try.func20, Try.ntmps20
      go_wp2_with (first | (go_at_call 30; ((with_reducible refine (HR3.out _).mono ?_); rintro e wn ⟨rfl, rfl⟩)))
      go_ret2
      exact ⟨by rw [HV.out]; simp [two, hk'], hx⟩
  by_cases c5' : s[0] = 93
  · have q : (s[0].toNat : Int) = 93 := by rw [c5']; rfl
    have HV := Lib.hid (HT.out 93 c5')
    clear c1' c2' c3' c4' c5'
    by_cases hk : 2 ≤ k4
    all_goals
      have hk' := hk
      go_enter Try.func20, Try.ntmps20
      go_wp2_with (first | (go_at_call 30; ((with_reducible refine (HR4.out _).mono ?_); rintro e wn ⟨rfl, rfl⟩)))
      go_ret2
      exact ⟨by rw [HV.out]; simp [two, hk'], hx⟩
  by_cases c6' : s[0] = 124
  · have q : (s[0].toNat : Int) = 124 := by rw [c6']; rfl
    have HV := Lib.hid (HT.out 124 c6')
    clear c1' c2' c3' c4' c5' c6'
    go_enter Try.func20, Try.ntmps20
    go_wp2
    go_ret2
    exact ⟨by rw [HV.out]; rfl, hx⟩
  by_cases c7' : s[0] = 61
  · have q : (s[0].toNat : Int) = 61 := by rw [c7']; rfl
    have HV := Lib.hid (HT.out 61 c7')
    clear c1' c2' c3' c4' c5' c6' c7'
    go_enter Try.func20, Try.ntmps20
    go_wp2
    go_ret2
    exact ⟨by rw [HV.out]; rfl, hx⟩
  by_cases c8' : s[0] = 10
  · have q : (s[0].toNat : Int) = 10 := by rw [c8']; rfl
    have HV := Lib.hid (HT.out 10 c8')
    clear c1' c2' c3' c4' c5' c6' c7' c8'
    go_enter Try.func20, Try.ntmps20
    go_wp2
    go_ret2
    exact ⟨by rw [HV.out]; rfl, hx⟩
  have HV : Hid (T = (0, 0)) := Lib.hid (by rw [HT.out _ rfl, if_neg c1', if_neg c2', if_neg c3', if_neg c4', if_neg c5', if_neg c6', if_neg c7', if_neg c8'])
  have ne : ∀ c : UInt8, s[0] ≠ c → ((s[0].toNat : Int) == (c.toNat : Int)) = false := fun c hc => by rw [u8_eq]; simpa using hc
  have q1 : ((s[0].toNat : Int) == 60) = false := ne 60 c1'
  have q2 : ((s[0].toNat : Int) == 123) = false := ne 123 c2'
  have q3 : ((s[0].toNat : Int) == 125) = false := ne 125 c3'
  have q4 : ((s[0].toNat : Int) == 91) = false := ne 91 c4'
  have q5 : ((s[0].toNat : Int) == 93) = false := ne 93 c5'
  have q6 : ((s[0].toNat : Int) == 124) = false := ne 124 c6'
  have q7 : ((s[0].toNat : Int) == 61) = false := ne 61 c7'
  have q8 : ((s[0].toNat : Int) == 10) = false := ne 10 c8'
  clear ne c1' c2' c3' c4' c5' c6' c7' c8'
  go_enter Try.func20, Try.ntmps20
  go_wp2
  go_ret2
  exact ⟨by rw [HV.out]; rfl, hx⟩
end Go.Proofs.Ytpcnfblpoepmbaa
