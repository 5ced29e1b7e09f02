/- The walks of the reference: TagText and special. -/
import Derived.Test.YtpcnfblpoepmbaaT3
namespace Go.Proofs.Ytpcnfblpoepmbaa
open Go.RowKit
set_option linter.unusedSimpArgs false
set_option linter.unusedVariables false

/-- the text of a tag -/
def ttx : Bool → Nat → ByteArray
  | false, 1 => ⟨#[60, 110, 111, 105, 110, 99, 108, 117, 100, 101, 62]⟩
  | false, 2 => ⟨#[60, 105, 110, 99, 108, 117, 100, 101, 111, 110, 108, 121, 62]⟩
  | false, _ => ⟨#[60, 111, 110, 108, 121, 105, 110, 99, 108, 117, 100, 101, 62]⟩
  | true, 1 => ⟨#[60, 47, 110, 111, 105, 110, 99, 108, 117, 100, 101, 62]⟩
  | true, 2 => ⟨#[60, 47, 105, 110, 99, 108, 117, 100, 101, 111, 110, 108, 121, 62]⟩
  | true, _ => ⟨#[60, 47, 111, 110, 108, 121, 105, 110, 99, 108, 117, 100, 101, 62]⟩
set_option maxHeartbeats 1600000 in
theorem tagtext_any (c : Bool) (k : Nat) (w : World) (hk : k = 1 ∨ k = 2 ∨ k = 3) :
    Calls Try.prog 16 #[.int .i64 k, .bool c] w fun e w' => e = .returned (.string (ttx c k)) ∧ Below w.heap.size w w' := by
  rcases hk with rfl | rfl | rfl <;> cases c
  all_goals
    go_enter Try.func16, Try.ntmps16
    go_wp2
    go_ret
    exact ⟨rfl, by (refine bel_out ?_; (focus (repeat' first | (with_reducible refine bel_refl ?_) | with_reducible assumption | with_reducible refine bel_drew ?_ | with_reducible refine bel_drewN _ ?_ | with_reducible refine bel_alloc _ ?_ | with_reducible refine bel_set ?_ _ ?_ | (with_reducible apply bel_call; with_reducible assumption) | (with_reducible apply bel_owg; with_reducible assumption; (focus omega)) | with_reducible exact Nat.le_refl _ | omega | (simp; done) | (simp; omega))))⟩

/-- kind and end, as special returns them -/
def sp2 (i : Nat) (T : Nat × Nat) : Value := .tuple #[.int .i64 (T.1 : Int), .int .i64 (if T.1 = 0 then 0 else (i : Int) + (T.2 : Int))]

set_option maxRecDepth 100000 in
set_option maxHeartbeats 16000000 in
theorem special_any (s : ByteArray) (i : Nat) (w : World) (hi : i ≤ s.size) (hs : s.size ≤ 4294967280) :
    Calls Try.prog 21 #[.string s, .int .i64 i] w fun e w' => e = .returned (sp2 i (TK ((bl s).drop i))) ∧ Below w.heap.size w w' := by
  have hx := Below.refl w.heap.size w
  have hul : ((bl s).drop i).length = s.size - i := by rw [List.length_drop, bl_len]
  have HT := Lib.hid (TK_bools ((bl s).drop i))
  have HL1 : Hid (pr sCm ((bl s).drop i) = true → i + 4 ≤ s.size) := Lib.hid fun h => by have := pr_len h; rw [hul] at this; simp at this; omega
  have HL2 : Hid (pr sNo ((bl s).drop i) = true → i + 8 ≤ s.size) := Lib.hid fun h => by have := pr_len h; rw [hul] at this; simp at this; omega
  have HK1 : Hid (∀ k : Nat, Lib.index (((bl s).drop i).drop 4) sCe = k → k ≤ s.size) := Lib.hid fun k hk => by have := ix_len hk; rw [List.length_drop, hul] at this; omega
  have HK2 : Hid (∀ k : Nat, Lib.index (((bl s).drop i).drop 8) sNe = k → k ≤ s.size) := Lib.hid fun k hk => by have := ix_len hk; rw [List.length_drop, hul] at this; omega
  have HRL : Hid (∀ c, runL c ((bl s).drop i) ≤ s.size) := Lib.hid fun c => by have := runL_le c ((bl s).drop i); omega
  have Ab1 : Hid (∀ W, Calls Try.prog 31 #[.string s, .int .i64 i, .string ⟨#[60, 33, 45, 45]⟩] W fun e w' => e = .returned (.bool (pr sCm ((bl s).drop i))) ∧ w' = W) := Lib.hid fun W => at_any s ⟨#[60, 33, 45, 45]⟩ i W hi (by omega) (by decide)
  have Ab2 : Hid (∀ W, Calls Try.prog 31 #[.string s, .int .i64 i, .string ⟨#[60, 110, 111, 119, 105, 107, 105, 62]⟩] W fun e w' => e = .returned (.bool (pr sNo ((bl s).drop i))) ∧ w' = W) := Lib.hid fun W => at_any s ⟨#[60, 110, 111, 119, 105, 107, 105, 62]⟩ i W hi (by omega) (by decide)
  have Ab3 : Hid (∀ W, Calls Try.prog 31 #[.string s, .int .i64 i, .string (ttx false 1)] W fun e w' => e = .returned (.bool (pr o1 ((bl s).drop i))) ∧ w' = W) := Lib.hid fun W => at_any s (ttx false 1) i W hi (by omega) (by decide)
  have Ab4 : Hid (∀ W, Calls Try.prog 31 #[.string s, .int .i64 i, .string (ttx true 1)] W fun e w' => e = .returned (.bool (pr c1 ((bl s).drop i))) ∧ w' = W) := Lib.hid fun W => at_any s (ttx true 1) i W hi (by omega) (by decide)
  have Ab5 : Hid (∀ W, Calls Try.prog 31 #[.string s, .int .i64 i, .string (ttx false 2)] W fun e w' => e = .returned (.bool (pr o2 ((bl s).drop i))) ∧ w' = W) := Lib.hid fun W => at_any s (ttx false 2) i W hi (by omega) (by decide)
  have Ab6 : Hid (∀ W, Calls Try.prog 31 #[.string s, .int .i64 i, .string (ttx true 2)] W fun e w' => e = .returned (.bool (pr c2 ((bl s).drop i))) ∧ w' = W) := Lib.hid fun W => at_any s (ttx true 2) i W hi (by omega) (by decide)
  have Ab7 : Hid (∀ W, Calls Try.prog 31 #[.string s, .int .i64 i, .string (ttx false 3)] W fun e w' => e = .returned (.bool (pr o3 ((bl s).drop i))) ∧ w' = W) := Lib.hid fun W => at_any s (ttx false 3) i W hi (by omega) (by decide)
  have Ab8 : Hid (∀ W, Calls Try.prog 31 #[.string s, .int .i64 i, .string (ttx true 3)] W fun e w' => e = .returned (.bool (pr c3 ((bl s).drop i))) ∧ w' = W) := Lib.hid fun W => at_any s (ttx true 3) i W hi (by omega) (by decide)
  have Ad1 : Hid (∀ W, Calls Try.prog 31 #[.string s, .int .i64 i, .string ⟨#[123, 123]⟩] W fun e w' => e = .returned (.bool (pr [123, 123] ((bl s).drop i))) ∧ w' = W) := Lib.hid fun W => at_any s ⟨#[123, 123]⟩ i W hi (by omega) (by decide)
  have Ad2 : Hid (∀ W, Calls Try.prog 31 #[.string s, .int .i64 i, .string ⟨#[125, 125]⟩] W fun e w' => e = .returned (.bool (pr [125, 125] ((bl s).drop i))) ∧ w' = W) := Lib.hid fun W => at_any s ⟨#[125, 125]⟩ i W hi (by omega) (by decide)
  have Ad3 : Hid (∀ W, Calls Try.prog 31 #[.string s, .int .i64 i, .string ⟨#[91, 91]⟩] W fun e w' => e = .returned (.bool (pr [91, 91] ((bl s).drop i))) ∧ w' = W) := Lib.hid fun W => at_any s ⟨#[91, 91]⟩ i W hi (by omega) (by decide)
  have Ad4 : Hid (∀ W, Calls Try.prog 31 #[.string s, .int .i64 i, .string ⟨#[93, 93]⟩] W fun e w' => e = .returned (.bool (pr [93, 93] ((bl s).drop i))) ∧ w' = W) := Lib.hid fun W => at_any s ⟨#[93, 93]⟩ i W hi (by omega) (by decide)
  have Ad5 : Hid (∀ W, Calls Try.prog 31 #[.string s, .int .i64 i, .string ⟨#[124]⟩] W fun e w' => e = .returned (.bool (pr [124] ((bl s).drop i))) ∧ w' = W) := Lib.hid fun W => at_any s ⟨#[124]⟩ i W hi (by omega) (by decide)
  have Ad6 : Hid (∀ W, Calls Try.prog 31 #[.string s, .int .i64 i, .string ⟨#[61]⟩] W fun e w' => e = .returned (.bool (pr [61] ((bl s).drop i))) ∧ w' = W) := Lib.hid fun W => at_any s ⟨#[61]⟩ i W hi (by omega) (by decide)
  have Ad7 : Hid (∀ W, Calls Try.prog 31 #[.string s, .int .i64 i, .string ⟨#[10]⟩] W fun e w' => e = .returned (.bool (pr [10] ((bl s).drop i))) ∧ w' = W) := Lib.hid fun W => at_any s ⟨#[10]⟩ i W hi (by omega) (by decide)
  have Xf1 : Hid (∀ W, Calls Try.prog 16 #[.int .i64 1, .bool false] W fun e w' => e = .returned (.string (ttx false 1)) ∧ Below W.heap.size W w') := Lib.hid fun W => tagtext_any false 1 W (by omega)
  have Xt1 : Hid (∀ W, Calls Try.prog 16 #[.int .i64 1, .bool true] W fun e w' => e = .returned (.string (ttx true 1)) ∧ Below W.heap.size W w') := Lib.hid fun W => tagtext_any true 1 W (by omega)
  have Xf2 : Hid (∀ W, Calls Try.prog 16 #[.int .i64 2, .bool false] W fun e w' => e = .returned (.string (ttx false 2)) ∧ Below W.heap.size W w') := Lib.hid fun W => tagtext_any false 2 W (by omega)
  have Xt2 : Hid (∀ W, Calls Try.prog 16 #[.int .i64 2, .bool true] W fun e w' => e = .returned (.string (ttx true 2)) ∧ Below W.heap.size W w') := Lib.hid fun W => tagtext_any true 2 W (by omega)
  have Xf3 : Hid (∀ W, Calls Try.prog 16 #[.int .i64 3, .bool false] W fun e w' => e = .returned (.string (ttx false 3)) ∧ Below W.heap.size W w') := Lib.hid fun W => tagtext_any false 3 W (by omega)
  have Xt3 : Hid (∀ W, Calls Try.prog 16 #[.int .i64 3, .bool true] W fun e w' => e = .returned (.string (ttx true 3)) ∧ Below W.heap.size W w') := Lib.hid fun W => tagtext_any true 3 W (by omega)
  have I1 : Hid (i + 4 ≤ s.size → ∀ W, Calls Try.prog 13 #[.string s, .string ⟨#[45, 45, 62]⟩, .int .i64 ((i : Int) + 4)] W fun e w' => e = .returned (.int .i64 (if Lib.index (((bl s).drop i).drop 4) sCe < 0 then -1 else ((i + 4 : Nat) : Int) + Lib.index (((bl s).drop i).drop 4) sCe)) ∧ w' = W) := Lib.hid fun h W => by
    have := ix_any s ⟨#[45, 45, 62]⟩ (i + 4) W h (by omega) (by decide)
    rw [List.drop_drop]
    exact this
  have I2 : Hid (i + 8 ≤ s.size → ∀ W, Calls Try.prog 13 #[.string s, .string ⟨#[60, 47, 110, 111, 119, 105, 107, 105, 62]⟩, .int .i64 ((i : Int) + 8)] W fun e w' => e = .returned (.int .i64 (if Lib.index (((bl s).drop i).drop 8) sNe < 0 then -1 else ((i + 8 : Nat) : Int) + Lib.index (((bl s).drop i).drop 8) sNe)) ∧ w' = W) := Lib.hid fun h W => by
    have := ix_any s ⟨#[60, 47, 110, 111, 119, 105, 107, 105, 62]⟩ (i + 8) W h (by omega) (by decide)
    rw [List.drop_drop]
    exact this
  have R1 : Hid (∀ W, Calls Try.prog 32 #[.string s, .int .i64 i, .int .u8 123] W fun e w' => e = .returned (.int .i64 ((i + runL 123 ((bl s).drop i) : Nat) : Int)) ∧ w' = W) := Lib.hid fun W => rrun_any s i 123 123 W rfl hi (by omega)
  have R2 : Hid (∀ W, Calls Try.prog 32 #[.string s, .int .i64 i, .int .u8 125] W fun e w' => e = .returned (.int .i64 ((i + runL 125 ((bl s).drop i) : Nat) : Int)) ∧ w' = W) := Lib.hid fun W => rrun_any s i 125 125 W rfl hi (by omega)
  have Y1 := HRL.out 123
  have Y2 := HRL.out 125
  have zf1 : (ttx false 1).size = 11 := rfl
  have zf2 : (ttx false 2).size = 13 := rfl
  have zf3 : (ttx false 3).size = 13 := rfl
  have zt1 : (ttx true 1).size = 12 := rfl
  have zt2 : (ttx true 2).size = 14 := rfl
  have zt3 : (ttx true 3).size = 14 := rfl
  generalize pr sCm ((bl s).drop i) = b1 at *
  generalize pr sNo ((bl s).drop i) = b2 at *
  generalize pr o1 ((bl s).drop i) = b3 at *
  generalize pr c1 ((bl s).drop i) = b4 at *
  generalize pr o2 ((bl s).drop i) = b5 at *
  generalize pr c2 ((bl s).drop i) = b6 at *
  generalize pr o3 ((bl s).drop i) = b7 at *
  generalize pr c3 ((bl s).drop i) = b8 at *
  generalize pr [123, 123] ((bl s).drop i) = d1 at *
  generalize pr [125, 125] ((bl s).drop i) = d2 at *
  generalize pr [91, 91] ((bl s).drop i) = d3 at *
  generalize pr [93, 93] ((bl s).drop i) = d4 at *
  generalize pr [124] ((bl s).drop i) = d5 at *
  generalize pr [61] ((bl s).drop i) = d6 at *
  generalize pr [10] ((bl s).drop i) = d7 at *
  generalize ttx false 1 = tf1 at *
  generalize ttx false 2 = tf2 at *
  generalize ttx false 3 = tf3 at *
  generalize ttx true 1 = tt1 at *
  generalize ttx true 2 = tt2 at *
  generalize ttx true 3 = tt3 at *
  generalize Lib.index (((bl s).drop i).drop 4) sCe = k1 at *
  generalize Lib.index (((bl s).drop i).drop 8) sNe = k2 at *
  generalize runL 123 ((bl s).drop i) = r1 at *
  generalize runL 125 ((bl s).drop i) = r2 at *
  rw [hul] at HT
  generalize TK ((bl s).drop i) = T at *
  clear hul HRL
  have g0 : (0 : Int) ≤ (i : Int) := by omega
  have gs : (i : Int) ≤ (s.size : Int) := by omega
  have gs2 : (s.size : Int) ≤ 4294967280 := by omega
  cases b1
  · by_cases hb2 : b2 = true ∧ 0 ≤ k2
    · obtain ⟨rfl, hk2⟩ := hb2
      obtain ⟨k, rfl⟩ := Int.eq_ofNat_of_zero_le hk2
      have h8 := HL2.out rfl
      have I3 := Lib.hid (I2.out h8)
      rw [if_neg (by omega)] at I3
      have hkk := HK2.out k rfl
      have HV : Hid (T = (10, 8 + k + 9)) := Lib.hid (by have h := HT.out; simpa using h)
      have h3 : (0 : Int) ≤ ((i + 8 : Nat) : Int) + (k : Int) := by omega
      have h3' : (0 : Int) ≤ (i : Int) + 8 + (k : Int) := by omega
      have h3'' : (k : Int) ≤ 4294967280 := by omega
      clear I1 I2 HT HL1 HL2 HK1 HK2 hk2
      go_enter Try.func21, Try.ntmps21
      go_wp2_with (first
        | (go_at_call 31; ((with_reducible refine (Ab1.out _).mono ?_); rintro e wn ⟨rfl, hwn⟩; obtain rfl := hwn.symm; clear hwn))
        | (go_at_call 31; ((with_reducible refine (Ab2.out _).mono ?_); rintro e wn ⟨rfl, hwn⟩; obtain rfl := hwn.symm; clear hwn))
        | (go_at_call 13; ((with_reducible refine (I3.out _).mono ?_); rintro e wn ⟨rfl, hwn⟩; obtain rfl := hwn.symm; clear hwn)))
      go_ret2
      exact ⟨by rw [HV.out]; simp [sp2]; omega, hx⟩
    · have hsel : (b2 = true ∧ k2 < 0) ∨ b2 = false := by cases b2; exact .inr rfl; exact .inl ⟨rfl, by have : ¬ 0 ≤ k2 := fun h => hb2 ⟨rfl, h⟩; omega⟩
      have HT2 : Hid (T = if b3 then (11, 11) else if b4 then (12, 12) else if b5 then (11, 13) else if b6 then (12, 14) else if b7 then (11, 13) else if b8 then (12, 14) else if d1 then (3, r1) else if d2 then (4, r2) else if d3 then (5, 2) else if d4 then (6, 2) else if d5 then (7, 1) else if d6 then (8, 1) else if d7 then (2, 1) else (0, 0)) := Lib.hid (by
        have h := HT.out
        rw [if_neg (by simp), if_neg hb2] at h
        exact h)
      have I3 : Hid (b2 = true → k2 < 0 → ∀ W, Calls Try.prog 13 #[.string s, .string ⟨#[60, 47, 110, 111, 119, 105, 107, 105, 62]⟩, .int .i64 ((i : Int) + 8)] W fun e w' => e = .returned (.int .i64 (-1)) ∧ w' = W) := Lib.hid fun h h2 W => by
        have := I2.out (HL2.out h) W
        rwa [if_pos h2] at this
      clear I1 I2 HT HL1 HL2 HK1 HK2 hb2
      rcases hsel with ⟨rfl, hk2⟩ | rfl
      all_goals
        try have I4 := Lib.hid (I3.out rfl hk2)
        clear I3
        go_enter Try.func21, Try.ntmps21
        go_wp2_with (first
          | (go_at_call 31; ((with_reducible refine (Ab1.out _).mono ?_); rintro e wn ⟨rfl, hwn⟩; obtain rfl := hwn.symm; clear hwn))
          | (go_at_call 31; ((with_reducible refine (Ab2.out _).mono ?_); rintro e wn ⟨rfl, hwn⟩; obtain rfl := hwn.symm; clear hwn))
          | (go_at_call 13; ((with_reducible refine (I4.out _).mono ?_); rintro e wn ⟨rfl, hwn⟩; obtain rfl := hwn.symm; clear hwn)))
        go_loopw [8] (fun v wr => Below w.heap.size w wr ∧ (v = .int .i64 1 ∨ (v = .int .i64 2 ∧ Hid (b3 = false ∧ b4 = false)) ∨ (v = .int .i64 3 ∧ Hid (b3 = false ∧ b4 = false ∧ b5 = false ∧ b6 = false)) ∨ (v = .int .i64 4 ∧ Hid (b3 = false ∧ b4 = false ∧ b5 = false ∧ b6 = false ∧ b7 = false ∧ b8 = false)))) (fun v _ => 4 - (intOf v).toNat)
        case atStart => exact ⟨hx, .inl rfl⟩
        case round =>
          obtain ⟨hbw, hrel⟩ := hrel
          clear hx
          have hx := hbw
          clear hbw
          rcases hrel with rfl | ⟨rfl, H⟩ | ⟨rfl, H⟩ | ⟨rfl, H⟩
          · cases b3
            · cases b4
              · go_wp2_with (first
                  | (go_at_call 31; ((with_reducible refine (Ab3.out _).mono ?_); rintro e wn ⟨rfl, hwn⟩; obtain rfl := hwn.symm; clear hwn))
                  | (go_at_call 31; ((with_reducible refine (Ab4.out _).mono ?_); rintro e wn ⟨rfl, hwn⟩; obtain rfl := hwn.symm; clear hwn))
                  | (go_at_call 16; ((with_reducible refine (Xf1.out _).mono ?_); rintro e wn ⟨rfl, hbn⟩; replace hx := below_call hx hbn; clear hbn))
                  | (go_at_call 16; ((with_reducible refine (Xt1.out _).mono ?_); rintro e wn ⟨rfl, hbn⟩; replace hx := below_call hx hbn; clear hbn)))
                go_roundw
                case rel => exact ⟨hx, .inr (.inl ⟨rfl, Lib.hid (by simp)⟩)⟩
                case measure => simp [intOf]
              · have HV : Hid (T = (12, 12)) := Lib.hid (by have h := HT2.out; simpa using h)
                go_wp2_with (first
                  | (go_at_call 31; ((with_reducible refine (Ab3.out _).mono ?_); rintro e wn ⟨rfl, hwn⟩; obtain rfl := hwn.symm; clear hwn))
                  | (go_at_call 31; ((with_reducible refine (Ab4.out _).mono ?_); rintro e wn ⟨rfl, hwn⟩; obtain rfl := hwn.symm; clear hwn))
                  | (go_at_call 16; ((with_reducible refine (Xf1.out _).mono ?_); rintro e wn ⟨rfl, hbn⟩; replace hx := below_call hx hbn; clear hbn))
                  | (go_at_call 16; ((with_reducible refine (Xt1.out _).mono ?_); rintro e wn ⟨rfl, hbn⟩; replace hx := below_call hx hbn; clear hbn)))
                go_ret2
                exact ⟨by rw [HV.out]; simp [sp2], hx⟩
            · have HV : Hid (T = (11, 11)) := Lib.hid (by have h := HT2.out; simpa using h)
              go_wp2_with (first
                | (go_at_call 31; ((with_reducible refine (Ab3.out _).mono ?_); rintro e wn ⟨rfl, hwn⟩; obtain rfl := hwn.symm; clear hwn))
                | (go_at_call 31; ((with_reducible refine (Ab4.out _).mono ?_); rintro e wn ⟨rfl, hwn⟩; obtain rfl := hwn.symm; clear hwn))
                | (go_at_call 16; ((with_reducible refine (Xf1.out _).mono ?_); rintro e wn ⟨rfl, hbn⟩; replace hx := below_call hx hbn; clear hbn))
                | (go_at_call 16; ((with_reducible refine (Xt1.out _).mono ?_); rintro e wn ⟨rfl, hbn⟩; replace hx := below_call hx hbn; clear hbn)))
              go_ret2
              exact ⟨by rw [HV.out]; simp [sp2], hx⟩
          · obtain ⟨rfl, rfl⟩ := H.out
            cases b5
            · cases b6
              · go_wp2_with (first
                  | (go_at_call 31; ((with_reducible refine (Ab5.out _).mono ?_); rintro e wn ⟨rfl, hwn⟩; obtain rfl := hwn.symm; clear hwn))
                  | (go_at_call 31; ((with_reducible refine (Ab6.out _).mono ?_); rintro e wn ⟨rfl, hwn⟩; obtain rfl := hwn.symm; clear hwn))
                  | (go_at_call 16; ((with_reducible refine (Xf2.out _).mono ?_); rintro e wn ⟨rfl, hbn⟩; replace hx := below_call hx hbn; clear hbn))
                  | (go_at_call 16; ((with_reducible refine (Xt2.out _).mono ?_); rintro e wn ⟨rfl, hbn⟩; replace hx := below_call hx hbn; clear hbn)))
                go_roundw
                case rel => exact ⟨hx, .inr (.inr (.inl ⟨rfl, Lib.hid (by simp)⟩))⟩
                case measure => simp [intOf]
              · have HV : Hid (T = (12, 14)) := Lib.hid (by have h := HT2.out; simpa using h)
                go_wp2_with (first
                  | (go_at_call 31; ((with_reducible refine (Ab5.out _).mono ?_); rintro e wn ⟨rfl, hwn⟩; obtain rfl := hwn.symm; clear hwn))
                  | (go_at_call 31; ((with_reducible refine (Ab6.out _).mono ?_); rintro e wn ⟨rfl, hwn⟩; obtain rfl := hwn.symm; clear hwn))
                  | (go_at_call 16; ((with_reducible refine (Xf2.out _).mono ?_); rintro e wn ⟨rfl, hbn⟩; replace hx := below_call hx hbn; clear hbn))
                  | (go_at_call 16; ((with_reducible refine (Xt2.out _).mono ?_); rintro e wn ⟨rfl, hbn⟩; replace hx := below_call hx hbn; clear hbn)))
                go_ret2
                exact ⟨by rw [HV.out]; simp [sp2], hx⟩
            · have HV : Hid (T = (11, 13)) := Lib.hid (by have h := HT2.out; simpa using h)
              go_wp2_with (first
                | (go_at_call 31; ((with_reducible refine (Ab5.out _).mono ?_); rintro e wn ⟨rfl, hwn⟩; obtain rfl := hwn.symm; clear hwn))
                | (go_at_call 31; ((with_reducible refine (Ab6.out _).mono ?_); rintro e wn ⟨rfl, hwn⟩; obtain rfl := hwn.symm; clear hwn))
                | (go_at_call 16; ((with_reducible refine (Xf2.out _).mono ?_); rintro e wn ⟨rfl, hbn⟩; replace hx := below_call hx hbn; clear hbn))
                | (go_at_call 16; ((with_reducible refine (Xt2.out _).mono ?_); rintro e wn ⟨rfl, hbn⟩; replace hx := below_call hx hbn; clear hbn)))
              go_ret2
              exact ⟨by rw [HV.out]; simp [sp2], hx⟩
          · obtain ⟨rfl, rfl, rfl, rfl⟩ := H.out
            cases b7
            · cases b8
              · go_wp2_with (first
                  | (go_at_call 31; ((with_reducible refine (Ab7.out _).mono ?_); rintro e wn ⟨rfl, hwn⟩; obtain rfl := hwn.symm; clear hwn))
                  | (go_at_call 31; ((with_reducible refine (Ab8.out _).mono ?_); rintro e wn ⟨rfl, hwn⟩; obtain rfl := hwn.symm; clear hwn))
                  | (go_at_call 16; ((with_reducible refine (Xf3.out _).mono ?_); rintro e wn ⟨rfl, hbn⟩; replace hx := below_call hx hbn; clear hbn))
                  | (go_at_call 16; ((with_reducible refine (Xt3.out _).mono ?_); rintro e wn ⟨rfl, hbn⟩; replace hx := below_call hx hbn; clear hbn)))
                go_roundw
                case rel => exact ⟨hx, .inr (.inr (.inr ⟨rfl, Lib.hid (by simp)⟩))⟩
                case measure => simp [intOf]
              · have HV : Hid (T = (12, 14)) := Lib.hid (by have h := HT2.out; simpa using h)
                go_wp2_with (first
                  | (go_at_call 31; ((with_reducible refine (Ab7.out _).mono ?_); rintro e wn ⟨rfl, hwn⟩; obtain rfl := hwn.symm; clear hwn))
                  | (go_at_call 31; ((with_reducible refine (Ab8.out _).mono ?_); rintro e wn ⟨rfl, hwn⟩; obtain rfl := hwn.symm; clear hwn))
                  | (go_at_call 16; ((with_reducible refine (Xf3.out _).mono ?_); rintro e wn ⟨rfl, hbn⟩; replace hx := below_call hx hbn; clear hbn))
                  | (go_at_call 16; ((with_reducible refine (Xt3.out _).mono ?_); rintro e wn ⟨rfl, hbn⟩; replace hx := below_call hx hbn; clear hbn)))
                go_ret2
                exact ⟨by rw [HV.out]; simp [sp2], hx⟩
            · have HV : Hid (T = (11, 13)) := Lib.hid (by have h := HT2.out; simpa using h)
              go_wp2_with (first
                | (go_at_call 31; ((with_reducible refine (Ab7.out _).mono ?_); rintro e wn ⟨rfl, hwn⟩; obtain rfl := hwn.symm; clear hwn))
                | (go_at_call 31; ((with_reducible refine (Ab8.out _).mono ?_); rintro e wn ⟨rfl, hwn⟩; obtain rfl := hwn.symm; clear hwn))
                | (go_at_call 16; ((with_reducible refine (Xf3.out _).mono ?_); rintro e wn ⟨rfl, hbn⟩; replace hx := below_call hx hbn; clear hbn))
                | (go_at_call 16; ((with_reducible refine (Xt3.out _).mono ?_); rintro e wn ⟨rfl, hbn⟩; replace hx := below_call hx hbn; clear hbn)))
              go_ret2
              exact ⟨by rw [HV.out]; simp [sp2], hx⟩
          · obtain ⟨rfl, rfl, rfl, rfl, rfl, rfl⟩ := H.out
            cases d1
            case true =>
              have HV : Hid (T = (3, r1)) := Lib.hid (by have h := HT2.out; simpa using h)
              go_wp2_with (first
                | (go_at_call 31; ((with_reducible refine (Ad1.out _).mono ?_); rintro e wn ⟨rfl, hwn⟩; obtain rfl := hwn.symm; clear hwn))
                | (go_at_call 31; ((with_reducible refine (Ad2.out _).mono ?_); rintro e wn ⟨rfl, hwn⟩; obtain rfl := hwn.symm; clear hwn))
                | (go_at_call 31; ((with_reducible refine (Ad3.out _).mono ?_); rintro e wn ⟨rfl, hwn⟩; obtain rfl := hwn.symm; clear hwn))
                | (go_at_call 31; ((with_reducible refine (Ad4.out _).mono ?_); rintro e wn ⟨rfl, hwn⟩; obtain rfl := hwn.symm; clear hwn))
                | (go_at_call 31; ((with_reducible refine (Ad5.out _).mono ?_); rintro e wn ⟨rfl, hwn⟩; obtain rfl := hwn.symm; clear hwn))
                | (go_at_call 31; ((with_reducible refine (Ad6.out _).mono ?_); rintro e wn ⟨rfl, hwn⟩; obtain rfl := hwn.symm; clear hwn))
                | (go_at_call 31; ((with_reducible refine (Ad7.out _).mono ?_); rintro e wn ⟨rfl, hwn⟩; obtain rfl := hwn.symm; clear hwn))
                | (go_at_call 32; ((with_reducible refine (R1.out _).mono ?_); rintro e wn ⟨rfl, hwn⟩; obtain rfl := hwn.symm; clear hwn))
                | (go_at_call 32; ((with_reducible refine (R2.out _).mono ?_); rintro e wn ⟨rfl, hwn⟩; obtain rfl := hwn.symm; clear hwn)))
              go_ret2
              exact ⟨by rw [HV.out]; simp [sp2], hx⟩
            cases d2
            case true =>
              have HV : Hid (T = (4, r2)) := Lib.hid (by have h := HT2.out; simpa using h)
              go_wp2_with (first
                | (go_at_call 31; ((with_reducible refine (Ad1.out _).mono ?_); rintro e wn ⟨rfl, hwn⟩; obtain rfl := hwn.symm; clear hwn))
                | (go_at_call 31; ((with_reducible refine (Ad2.out _).mono ?_); rintro e wn ⟨rfl, hwn⟩; obtain rfl := hwn.symm; clear hwn))
                | (go_at_call 31; ((with_reducible refine (Ad3.out _).mono ?_); rintro e wn ⟨rfl, hwn⟩; obtain rfl := hwn.symm; clear hwn))
                | (go_at_call 31; ((with_reducible refine (Ad4.out _).mono ?_); rintro e wn ⟨rfl, hwn⟩; obtain rfl := hwn.symm; clear hwn))
                | (go_at_call 31; ((with_reducible refine (Ad5.out _).mono ?_); rintro e wn ⟨rfl, hwn⟩; obtain rfl := hwn.symm; clear hwn))
                | (go_at_call 31; ((with_reducible refine (Ad6.out _).mono ?_); rintro e wn ⟨rfl, hwn⟩; obtain rfl := hwn.symm; clear hwn))
                | (go_at_call 31; ((with_reducible refine (Ad7.out _).mono ?_); rintro e wn ⟨rfl, hwn⟩; obtain rfl := hwn.symm; clear hwn))
                | (go_at_call 32; ((with_reducible refine (R1.out _).mono ?_); rintro e wn ⟨rfl, hwn⟩; obtain rfl := hwn.symm; clear hwn))
                | (go_at_call 32; ((with_reducible refine (R2.out _).mono ?_); rintro e wn ⟨rfl, hwn⟩; obtain rfl := hwn.symm; clear hwn)))
              go_ret2
              exact ⟨by rw [HV.out]; simp [sp2], hx⟩
            cases d3
            case true =>
              have HV : Hid (T = (5, 2)) := Lib.hid (by have h := HT2.out; simpa using h)
              go_wp2_with (first
                | (go_at_call 31; ((with_reducible refine (Ad1.out _).mono ?_); rintro e wn ⟨rfl, hwn⟩; obtain rfl := hwn.symm; clear hwn))
                | (go_at_call 31; ((with_reducible refine (Ad2.out _).mono ?_); rintro e wn ⟨rfl, hwn⟩; obtain rfl := hwn.symm; clear hwn))
                | (go_at_call 31; ((with_reducible refine (Ad3.out _).mono ?_); rintro e wn ⟨rfl, hwn⟩; obtain rfl := hwn.symm; clear hwn))
                | (go_at_call 31; ((with_reducible refine (Ad4.out _).mono ?_); rintro e wn ⟨rfl, hwn⟩; obtain rfl := hwn.symm; clear hwn))
                | (go_at_call 31; ((with_reducible refine (Ad5.out _).mono ?_); rintro e wn ⟨rfl, hwn⟩; obtain rfl := hwn.symm; clear hwn))
                | (go_at_call 31; ((with_reducible refine (Ad6.out _).mono ?_); rintro e wn ⟨rfl, hwn⟩; obtain rfl := hwn.symm; clear hwn))
                | (go_at_call 31; ((with_reducible refine (Ad7.out _).mono ?_); rintro e wn ⟨rfl, hwn⟩; obtain rfl := hwn.symm; clear hwn))
                | (go_at_call 32; ((with_reducible refine (R1.out _).mono ?_); rintro e wn ⟨rfl, hwn⟩; obtain rfl := hwn.symm; clear hwn))
                | (go_at_call 32; ((with_reducible refine (R2.out _).mono ?_); rintro e wn ⟨rfl, hwn⟩; obtain rfl := hwn.symm; clear hwn)))
              go_ret2
              exact ⟨by rw [HV.out]; simp [sp2], hx⟩
            cases d4
            case true =>
              have HV : Hid (T = (6, 2)) := Lib.hid (by have h := HT2.out; simpa using h)
              go_wp2_with (first
                | (go_at_call 31; ((with_reducible refine (Ad1.out _).mono ?_); rintro e wn ⟨rfl, hwn⟩; obtain rfl := hwn.symm; clear hwn))
                | (go_at_call 31; ((with_reducible refine (Ad2.out _).mono ?_); rintro e wn ⟨rfl, hwn⟩; obtain rfl := hwn.symm; clear hwn))
                | (go_at_call 31; ((with_reducible refine (Ad3.out _).mono ?_); rintro e wn ⟨rfl, hwn⟩; obtain rfl := hwn.symm; clear hwn))
                | (go_at_call 31; ((with_reducible refine (Ad4.out _).mono ?_); rintro e wn ⟨rfl, hwn⟩; obtain rfl := hwn.symm; clear hwn))
                | (go_at_call 31; ((with_reducible refine (Ad5.out _).mono ?_); rintro e wn ⟨rfl, hwn⟩; obtain rfl := hwn.symm; clear hwn))
                | (go_at_call 31; ((with_reducible refine (Ad6.out _).mono ?_); rintro e wn ⟨rfl, hwn⟩; obtain rfl := hwn.symm; clear hwn))
                | (go_at_call 31; ((with_reducible refine (Ad7.out _).mono ?_); rintro e wn ⟨rfl, hwn⟩; obtain rfl := hwn.symm; clear hwn))
                | (go_at_call 32; ((with_reducible refine (R1.out _).mono ?_); rintro e wn ⟨rfl, hwn⟩; obtain rfl := hwn.symm; clear hwn))
                | (go_at_call 32; ((with_reducible refine (R2.out _).mono ?_); rintro e wn ⟨rfl, hwn⟩; obtain rfl := hwn.symm; clear hwn)))
              go_ret2
              exact ⟨by rw [HV.out]; simp [sp2], hx⟩
            cases d5
            case true =>
              have HV : Hid (T = (7, 1)) := Lib.hid (by have h := HT2.out; simpa using h)
              go_wp2_with (first
                | (go_at_call 31; ((with_reducible refine (Ad1.out _).mono ?_); rintro e wn ⟨rfl, hwn⟩; obtain rfl := hwn.symm; clear hwn))
                | (go_at_call 31; ((with_reducible refine (Ad2.out _).mono ?_); rintro e wn ⟨rfl, hwn⟩; obtain rfl := hwn.symm; clear hwn))
                | (go_at_call 31; ((with_reducible refine (Ad3.out _).mono ?_); rintro e wn ⟨rfl, hwn⟩; obtain rfl := hwn.symm; clear hwn))
                | (go_at_call 31; ((with_reducible refine (Ad4.out _).mono ?_); rintro e wn ⟨rfl, hwn⟩; obtain rfl := hwn.symm; clear hwn))
                | (go_at_call 31; ((with_reducible refine (Ad5.out _).mono ?_); rintro e wn ⟨rfl, hwn⟩; obtain rfl := hwn.symm; clear hwn))
                | (go_at_call 31; ((with_reducible refine (Ad6.out _).mono ?_); rintro e wn ⟨rfl, hwn⟩; obtain rfl := hwn.symm; clear hwn))
                | (go_at_call 31; ((with_reducible refine (Ad7.out _).mono ?_); rintro e wn ⟨rfl, hwn⟩; obtain rfl := hwn.symm; clear hwn))
                | (go_at_call 32; ((with_reducible refine (R1.out _).mono ?_); rintro e wn ⟨rfl, hwn⟩; obtain rfl := hwn.symm; clear hwn))
                | (go_at_call 32; ((with_reducible refine (R2.out _).mono ?_); rintro e wn ⟨rfl, hwn⟩; obtain rfl := hwn.symm; clear hwn)))
              go_ret2
              exact ⟨by rw [HV.out]; simp [sp2], hx⟩
            cases d6
            case true =>
              have HV : Hid (T = (8, 1)) := Lib.hid (by have h := HT2.out; simpa using h)
              go_wp2_with (first
                | (go_at_call 31; ((with_reducible refine (Ad1.out _).mono ?_); rintro e wn ⟨rfl, hwn⟩; obtain rfl := hwn.symm; clear hwn))
                | (go_at_call 31; ((with_reducible refine (Ad2.out _).mono ?_); rintro e wn ⟨rfl, hwn⟩; obtain rfl := hwn.symm; clear hwn))
                | (go_at_call 31; ((with_reducible refine (Ad3.out _).mono ?_); rintro e wn ⟨rfl, hwn⟩; obtain rfl := hwn.symm; clear hwn))
                | (go_at_call 31; ((with_reducible refine (Ad4.out _).mono ?_); rintro e wn ⟨rfl, hwn⟩; obtain rfl := hwn.symm; clear hwn))
                | (go_at_call 31; ((with_reducible refine (Ad5.out _).mono ?_); rintro e wn ⟨rfl, hwn⟩; obtain rfl := hwn.symm; clear hwn))
                | (go_at_call 31; ((with_reducible refine (Ad6.out _).mono ?_); rintro e wn ⟨rfl, hwn⟩; obtain rfl := hwn.symm; clear hwn))
                | (go_at_call 31; ((with_reducible refine (Ad7.out _).mono ?_); rintro e wn ⟨rfl, hwn⟩; obtain rfl := hwn.symm; clear hwn))
                | (go_at_call 32; ((with_reducible refine (R1.out _).mono ?_); rintro e wn ⟨rfl, hwn⟩; obtain rfl := hwn.symm; clear hwn))
                | (go_at_call 32; ((with_reducible refine (R2.out _).mono ?_); rintro e wn ⟨rfl, hwn⟩; obtain rfl := hwn.symm; clear hwn)))
              go_ret2
              exact ⟨by rw [HV.out]; simp [sp2], hx⟩
            cases d7
            case true =>
              have HV : Hid (T = (2, 1)) := Lib.hid (by have h := HT2.out; simpa using h)
              go_wp2_with (first
                | (go_at_call 31; ((with_reducible refine (Ad1.out _).mono ?_); rintro e wn ⟨rfl, hwn⟩; obtain rfl := hwn.symm; clear hwn))
                | (go_at_call 31; ((with_reducible refine (Ad2.out _).mono ?_); rintro e wn ⟨rfl, hwn⟩; obtain rfl := hwn.symm; clear hwn))
                | (go_at_call 31; ((with_reducible refine (Ad3.out _).mono ?_); rintro e wn ⟨rfl, hwn⟩; obtain rfl := hwn.symm; clear hwn))
                | (go_at_call 31; ((with_reducible refine (Ad4.out _).mono ?_); rintro e wn ⟨rfl, hwn⟩; obtain rfl := hwn.symm; clear hwn))
                | (go_at_call 31; ((with_reducible refine (Ad5.out _).mono ?_); rintro e wn ⟨rfl, hwn⟩; obtain rfl := hwn.symm; clear hwn))
                | (go_at_call 31; ((with_reducible refine (Ad6.out _).mono ?_); rintro e wn ⟨rfl, hwn⟩; obtain rfl := hwn.symm; clear hwn))
                | (go_at_call 31; ((with_reducible refine (Ad7.out _).mono ?_); rintro e wn ⟨rfl, hwn⟩; obtain rfl := hwn.symm; clear hwn))
                | (go_at_call 32; ((with_reducible refine (R1.out _).mono ?_); rintro e wn ⟨rfl, hwn⟩; obtain rfl := hwn.symm; clear hwn))
                | (go_at_call 32; ((with_reducible refine (R2.out _).mono ?_); rintro e wn ⟨rfl, hwn⟩; obtain rfl := hwn.symm; clear hwn)))
              go_ret2
              exact ⟨by rw [HV.out]; simp [sp2], hx⟩
            have HV : Hid (T = (0, 0)) := Lib.hid (by have h := HT2.out; simpa using h)
            go_wp2_with (first
              | (go_at_call 31; ((with_reducible refine (Ad1.out _).mono ?_); rintro e wn ⟨rfl, hwn⟩; obtain rfl := hwn.symm; clear hwn))
              | (go_at_call 31; ((with_reducible refine (Ad2.out _).mono ?_); rintro e wn ⟨rfl, hwn⟩; obtain rfl := hwn.symm; clear hwn))
              | (go_at_call 31; ((with_reducible refine (Ad3.out _).mono ?_); rintro e wn ⟨rfl, hwn⟩; obtain rfl := hwn.symm; clear hwn))
              | (go_at_call 31; ((with_reducible refine (Ad4.out _).mono ?_); rintro e wn ⟨rfl, hwn⟩; obtain rfl := hwn.symm; clear hwn))
              | (go_at_call 31; ((with_reducible refine (Ad5.out _).mono ?_); rintro e wn ⟨rfl, hwn⟩; obtain rfl := hwn.symm; clear hwn))
              | (go_at_call 31; ((with_reducible refine (Ad6.out _).mono ?_); rintro e wn ⟨rfl, hwn⟩; obtain rfl := hwn.symm; clear hwn))
              | (go_at_call 31; ((with_reducible refine (Ad7.out _).mono ?_); rintro e wn ⟨rfl, hwn⟩; obtain rfl := hwn.symm; clear hwn))
              | (go_at_call 32; ((with_reducible refine (R1.out _).mono ?_); rintro e wn ⟨rfl, hwn⟩; obtain rfl := hwn.symm; clear hwn))
              | (go_at_call 32; ((with_reducible refine (R2.out _).mono ?_); rintro e wn ⟨rfl, hwn⟩; obtain rfl := hwn.symm; clear hwn)))
            go_ret2
            exact ⟨by rw [HV.out]; simp [sp2], hx⟩
  · have h4 := HL1.out rfl
    have I3 := Lib.hid (I1.out h4)
    by_cases hk : k1 < 0
    · have HV : Hid (T = (9, s.size - i)) := Lib.hid (by have h := HT.out; rw [if_pos rfl, if_pos hk] at h; exact h)
      rw [if_pos hk] at I3
      clear I1 I2 HT HL1 HL2 HK1 HK2 hk
      go_enter Try.func21, Try.ntmps21
      go_wp2_with (first
        | (go_at_call 31; ((with_reducible refine (Ab1.out _).mono ?_); rintro e wn ⟨rfl, hwn⟩; obtain rfl := hwn.symm; clear hwn))
        | (go_at_call 13; ((with_reducible refine (I3.out _).mono ?_); rintro e wn ⟨rfl, hwn⟩; obtain rfl := hwn.symm; clear hwn)))
      go_ret2
      exact ⟨by rw [HV.out]; simp [sp2]; omega, hx⟩
    · obtain ⟨k, rfl⟩ := Int.eq_ofNat_of_zero_le (show 0 ≤ k1 by omega)
      rw [if_neg hk] at I3
      have hkk := HK1.out k rfl
      have HV : Hid (T = (9, 4 + k + 3)) := Lib.hid (by have h := HT.out; rw [if_pos rfl, if_neg hk] at h; simpa using h)
      have h3 : (0 : Int) ≤ ((i + 4 : Nat) : Int) + (k : Int) := by omega
      have h3' : (0 : Int) ≤ (i : Int) + 4 + (k : Int) := by omega
      have h3'' : (k : Int) ≤ 4294967280 := by omega
      clear I1 I2 HT HL1 HL2 HK1 HK2 hk
      go_enter Try.func21, Try.ntmps21
      go_wp2_with (first
        | (go_at_call 31; ((with_reducible refine (Ab1.out _).mono ?_); rintro e wn ⟨rfl, hwn⟩; obtain rfl := hwn.symm; clear hwn))
        | (go_at_call 13; ((with_reducible refine (I3.out _).mono ?_); rintro e wn ⟨rfl, hwn⟩; obtain rfl := hwn.symm; clear hwn)))
      go_ret2
      exact ⟨by rw [HV.out]; simp [sp2]; omega, hx⟩
end Go.Proofs.Ytpcnfblpoepmbaa
