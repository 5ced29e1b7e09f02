/- The walks of Tag, of the reference's Tag, of TokenAlone. -/
import Derived.Test.YtpcnfblpoepmbaaT7
import Derived.Deep.RegionHeld3
namespace Go.Proofs.Ytpcnfblpoepmbaa
open Go.RowKit
set_option linter.unusedSimpArgs false
set_option linter.unusedVariables false

set_option maxHeartbeats 1600000 in
theorem tag_any (s : ByteArray) (K f t : Int) (w : World) :
    Calls Try.prog 15 #[.string s, .agg #[.int .i64 K, .int .i64 f, .int .i64 t]] w fun e w' => e = .returned (.int .i64 (TG K (bl (TT s f t)) : Int)) ∧ Below w.heap.size w w' := by
  have HT := Lib.hid fun W => text_any s K f t W
  have hx0 : Below w.heap.size w (w.alloc (.cells #[.int .i64 K, .int .i64 f, .int .i64 t] 31)) := (Below.refl _ _).alloc (Nat.le_refl _) _
  generalize TT s f t = x at *
  by_cases h11 : K = 11
  · have HV : Hid (TG K (bl x) = if (tagO (bl x)).2 = x.size then (tagO (bl x)).1 else 0) := Lib.hid (by
      rw [← bl_len x, tagO_eq, h11]
      rfl)
    generalize TG K (bl x) = R at *
    have HO : Hid (∀ W, Calls Try.prog 22 #[.string x, .string ⟨#[60]⟩] W fun e w' => e = .returned (.tuple #[.int .i64 ((tagO (bl x)).1 : Int), .int .i64 ((tagO (bl x)).2 : Int)]) ∧ Below W.heap.size W w') := Lib.hid fun W => tagO_any x W
    generalize tagO (bl x) = P at *
    subst h11
    have hway : (P.2 = x.size ∧ ((P.2 : Int) == (x.size : Int)) = true) ∨ (P.2 ≠ x.size ∧ ((P.2 : Int) == (x.size : Int)) = false) := by
      by_cases h : P.2 = x.size
      · exact .inl ⟨h, by rw [h]; simp⟩
      · exact .inr ⟨h, by simp; omega⟩
    rcases hway with ⟨hp, hp'⟩ | ⟨hp, hp'⟩
    all_goals
      have HP := Lib.hid hp
      clear hp
      go_enter Try.func15, Try.ntmps15
      go_wp2_with (first
        | (go_at_call 14; ((with_reducible refine (HT.out _).mono ?_); rintro e w1 ⟨rfl, hb1⟩; have hx := below_call hx0 hb1))
        | (go_at_call 22; ((with_reducible refine (HO.out _).mono ?_); rintro e wn ⟨rfl, hbn⟩; replace hx := below_call hx hbn; clear hbn)))
      go_ret
      exact ⟨by rw [HV.out]; simp [HP.out], hx⟩
  by_cases h12 : K = 12
  · have HV : Hid (TG K (bl x) = if (tagC (bl x)).2 = x.size then (tagC (bl x)).1 else 0) := Lib.hid (by
      rw [← bl_len x, tagC_eq, h12]
      rfl)
    generalize TG K (bl x) = R at *
    have HO : Hid (∀ W, Calls Try.prog 22 #[.string x, .string ⟨#[60, 47]⟩] W fun e w' => e = .returned (.tuple #[.int .i64 ((tagC (bl x)).1 : Int), .int .i64 ((tagC (bl x)).2 : Int)]) ∧ Below W.heap.size W w') := Lib.hid fun W => tagC_any x W
    generalize tagC (bl x) = P at *
    subst h12
    have hway : (P.2 = x.size ∧ ((P.2 : Int) == (x.size : Int)) = true) ∨ (P.2 ≠ x.size ∧ ((P.2 : Int) == (x.size : Int)) = false) := by
      by_cases h : P.2 = x.size
      · exact .inl ⟨h, by rw [h]; simp⟩
      · exact .inr ⟨h, by simp; omega⟩
    rcases hway with ⟨hp, hp'⟩ | ⟨hp, hp'⟩
    all_goals
      have HP := Lib.hid hp
      clear hp
      go_enter Try.func15, Try.ntmps15
      go_wp2_with (first
        | (go_at_call 14; ((with_reducible refine (HT.out _).mono ?_); rintro e w1 ⟨rfl, hb1⟩; have hx := below_call hx0 hb1))
        | (go_at_call 22; ((with_reducible refine (HO.out _).mono ?_); rintro e wn ⟨rfl, hbn⟩; replace hx := below_call hx hbn; clear hbn)))
      go_ret
      exact ⟨by rw [HV.out]; simp [HP.out], hx⟩
  have HV : Hid (TG K (bl x) = 0) := Lib.hid (by unfold TG; rw [if_neg h11, if_neg h12])
  have q1 : (K == 11) = false := by simpa using h11
  have q2 : (K == 12) = false := by simpa using h12
  generalize TG K (bl x) = R at *
  clear h11 h12
  go_enter Try.func15, Try.ntmps15
  go_wp2
  go_ret
  exact ⟨by rw [HV.out]; rfl, hx0⟩

theorem ba_beq (x y : ByteArray) : (x.toList == y.toList) = decide (bl x = bl y) := by
  rw [ByteArray.toList_eq, ByteArray.toList_eq]
  by_cases h : x.data.toList = y.data.toList
  · simp [h]
  · simp only [h, decide_false]
    simpa using h

set_option maxRecDepth 100000 in
set_option maxHeartbeats 8000000 in
theorem rtag_any (s : ByteArray) (K f t : Int) (w : World) :
    Calls Try.prog 18 #[.string s, .agg #[.int .i64 K, .int .i64 f, .int .i64 t]] w fun e w' => e = .returned (.int .i64 (TG K (bl (TT s f t)) : Int)) ∧ Below w.heap.size w w' := by
  have HT := Lib.hid fun W => rtext_any s K f t W
  have hx0 : Below w.heap.size w (w.alloc (.cells #[.int .i64 K, .int .i64 f, .int .i64 t] 31)) := (Below.refl _ _).alloc (Nat.le_refl _) _
  have HH : Hid (∀ W, Below (w.alloc (.cells #[.int .i64 K, .int .i64 f, .int .i64 t] 31)).heap.size (w.alloc (.cells #[.int .i64 K, .int .i64 f, .int .i64 t] 31)) W → W.cell? ⟨w.heap.size, 0, none⟩ = some (.int .i64 K) ∧ W.cell? ⟨w.heap.size, 1, none⟩ = some (.int .i64 f) ∧ W.cell? ⟨w.heap.size, 2, none⟩ = some (.int .i64 t)) := Lib.hid fun W hW => by
    obtain ⟨kc, _, _, _⟩ := blk_cells hW (g := w.heap.size) (t := 31) (cs := #[.int .i64 K, .int .i64 f, .int .i64 t]) (heap_new rfl)
    exact ⟨kc 0, kc 1, kc 2⟩
  generalize TT s f t = x at *
  by_cases h11 : K = 11
  · have HV : Hid (TG K (bl x) = tgO (bl x)) := Lib.hid (by rw [h11]; rfl)
    generalize TG K (bl x) = R at *
    have HV2 : Hid (R = if (x.toList == (ttx false 1).toList) = true then 1 else if (x.toList == (ttx false 2).toList) = true then 2 else if (x.toList == (ttx false 3).toList) = true then 3 else 0) := Lib.hid (by
      rw [HV.out, ba_beq, ba_beq, ba_beq]
      simp only [decide_eq_true_eq]
      rfl)
    have X1 : Hid (∀ W, Calls Try.prog 16 #[.int .i64 1, .bool false] W fun e w' => e = .returned (.string (ttx false 1)) ∧ Below W.heap.size W w') := Lib.hid fun W => tagtext_any false 1 W (by omega)
    generalize ttx false 1 = y1 at *
    obtain ⟨b1, hb1⟩ : ∃ b1, (x.toList == y1.toList) = b1 := ⟨_, rfl⟩
    rw [hb1] at HV2
    have X2 : Hid (∀ W, Calls Try.prog 16 #[.int .i64 2, .bool false] W fun e w' => e = .returned (.string (ttx false 2)) ∧ Below W.heap.size W w') := Lib.hid fun W => tagtext_any false 2 W (by omega)
    generalize ttx false 2 = y2 at *
    obtain ⟨b2, hb2⟩ : ∃ b2, (x.toList == y2.toList) = b2 := ⟨_, rfl⟩
    rw [hb2] at HV2
    have X3 : Hid (∀ W, Calls Try.prog 16 #[.int .i64 3, .bool false] W fun e w' => e = .returned (.string (ttx false 3)) ∧ Below W.heap.size W w') := Lib.hid fun W => tagtext_any false 3 W (by omega)
    generalize ttx false 3 = y3 at *
    obtain ⟨b3, hb3⟩ : ∃ b3, (x.toList == y3.toList) = b3 := ⟨_, rfl⟩
    rw [hb3] at HV2
    subst h11
    clear HV
    go_enter Try.func18, Try.ntmps18
    go_wp2
    go_loopw [5] (fun v wr => Below (w.alloc (.cells #[.int .i64 11, .int .i64 f, .int .i64 t] 31)).heap.size (w.alloc (.cells #[.int .i64 11, .int .i64 f, .int .i64 t] 31)) wr ∧ (v = .int .i64 1 ∨ (v = .int .i64 2 ∧ Hid (b1 = false)) ∨ (v = .int .i64 3 ∧ Hid (b1 = false ∧ b2 = false)) ∨ (v = .int .i64 4 ∧ Hid (b1 = false ∧ b2 = false ∧ b3 = false)))) (fun v _ => 4 - (intOf v).toNat)
    case atStart => exact ⟨Below.refl _ _, .inl rfl⟩
    case round =>
      obtain ⟨hbw, hrel⟩ := hrel
      obtain ⟨k0, k1, k2⟩ := HH.out _ hbw
      rcases hrel with rfl | ⟨rfl, H⟩ | ⟨rfl, H⟩ | ⟨rfl, H⟩
      · cases b1
        · go_wp2_with (first
            | (go_at_call 17; ((with_reducible refine (HT.out _).mono ?_); rintro e wn ⟨rfl, hbn⟩; replace hbw := below_call hbw hbn; clear hbn k0 k1 k2; obtain ⟨k0, k1, k2⟩ := HH.out _ hbw))
            | (go_at_call 16; ((with_reducible refine (X1.out _).mono ?_); rintro e wn ⟨rfl, hbn⟩; replace hbw := below_call hbw hbn; clear hbn k0 k1 k2; obtain ⟨k0, k1, k2⟩ := HH.out _ hbw)))
          go_roundw
          case rel => exact ⟨hbw, .inr (.inl ⟨rfl, Lib.hid (by simp)⟩)⟩
          case measure => simp [intOf]
        · have HW : Hid (R = 1) := Lib.hid (by have h := HV2.out; simpa using h)
          go_wp2_with (first
            | (go_at_call 17; ((with_reducible refine (HT.out _).mono ?_); rintro e wn ⟨rfl, hbn⟩; replace hbw := below_call hbw hbn; clear hbn k0 k1 k2; obtain ⟨k0, k1, k2⟩ := HH.out _ hbw))
            | (go_at_call 16; ((with_reducible refine (X1.out _).mono ?_); rintro e wn ⟨rfl, hbn⟩; replace hbw := below_call hbw hbn; clear hbn k0 k1 k2; obtain ⟨k0, k1, k2⟩ := HH.out _ hbw)))
          go_ret
          exact ⟨by rw [HW.out]; rfl, hx0.trans (hbw.mono (by simp))⟩
      · obtain rfl := H.out
        cases b2
        · go_wp2_with (first
            | (go_at_call 17; ((with_reducible refine (HT.out _).mono ?_); rintro e wn ⟨rfl, hbn⟩; replace hbw := below_call hbw hbn; clear hbn k0 k1 k2; obtain ⟨k0, k1, k2⟩ := HH.out _ hbw))
            | (go_at_call 16; ((with_reducible refine (X2.out _).mono ?_); rintro e wn ⟨rfl, hbn⟩; replace hbw := below_call hbw hbn; clear hbn k0 k1 k2; obtain ⟨k0, k1, k2⟩ := HH.out _ hbw)))
          go_roundw
          case rel => exact ⟨hbw, .inr (.inr (.inl ⟨rfl, Lib.hid (by simp)⟩))⟩
          case measure => simp [intOf]
        · have HW : Hid (R = 2) := Lib.hid (by have h := HV2.out; simpa using h)
          go_wp2_with (first
            | (go_at_call 17; ((with_reducible refine (HT.out _).mono ?_); rintro e wn ⟨rfl, hbn⟩; replace hbw := below_call hbw hbn; clear hbn k0 k1 k2; obtain ⟨k0, k1, k2⟩ := HH.out _ hbw))
            | (go_at_call 16; ((with_reducible refine (X2.out _).mono ?_); rintro e wn ⟨rfl, hbn⟩; replace hbw := below_call hbw hbn; clear hbn k0 k1 k2; obtain ⟨k0, k1, k2⟩ := HH.out _ hbw)))
          go_ret
          exact ⟨by rw [HW.out]; rfl, hx0.trans (hbw.mono (by simp))⟩
      · obtain ⟨rfl, rfl⟩ := H.out
        cases b3
        · go_wp2_with (first
            | (go_at_call 17; ((with_reducible refine (HT.out _).mono ?_); rintro e wn ⟨rfl, hbn⟩; replace hbw := below_call hbw hbn; clear hbn k0 k1 k2; obtain ⟨k0, k1, k2⟩ := HH.out _ hbw))
            | (go_at_call 16; ((with_reducible refine (X3.out _).mono ?_); rintro e wn ⟨rfl, hbn⟩; replace hbw := below_call hbw hbn; clear hbn k0 k1 k2; obtain ⟨k0, k1, k2⟩ := HH.out _ hbw)))
          go_roundw
          case rel => exact ⟨hbw, .inr (.inr (.inr ⟨rfl, Lib.hid (by simp)⟩))⟩
          case measure => simp [intOf]
        · have HW : Hid (R = 3) := Lib.hid (by have h := HV2.out; simpa using h)
          go_wp2_with (first
            | (go_at_call 17; ((with_reducible refine (HT.out _).mono ?_); rintro e wn ⟨rfl, hbn⟩; replace hbw := below_call hbw hbn; clear hbn k0 k1 k2; obtain ⟨k0, k1, k2⟩ := HH.out _ hbw))
            | (go_at_call 16; ((with_reducible refine (X3.out _).mono ?_); rintro e wn ⟨rfl, hbn⟩; replace hbw := below_call hbw hbn; clear hbn k0 k1 k2; obtain ⟨k0, k1, k2⟩ := HH.out _ hbw)))
          go_ret
          exact ⟨by rw [HW.out]; rfl, hx0.trans (hbw.mono (by simp))⟩
      · obtain ⟨rfl, rfl, rfl⟩ := H.out
        have HW : Hid (R = 0) := Lib.hid (by have h := HV2.out; simpa using h)
        go_wp2
        go_ret
        exact ⟨by rw [HW.out]; rfl, hx0.trans (hbw.mono (by simp))⟩
  by_cases h12 : K = 12
  · have HV : Hid (TG K (bl x) = tgC (bl x)) := Lib.hid (by rw [h12]; rfl)
    generalize TG K (bl x) = R at *
    have HV2 : Hid (R = if (x.toList == (ttx true 1).toList) = true then 1 else if (x.toList == (ttx true 2).toList) = true then 2 else if (x.toList == (ttx true 3).toList) = true then 3 else 0) := Lib.hid (by
      rw [HV.out, ba_beq, ba_beq, ba_beq]
      simp only [decide_eq_true_eq]
      rfl)
    have X1 : Hid (∀ W, Calls Try.prog 16 #[.int .i64 1, .bool true] W fun e w' => e = .returned (.string (ttx true 1)) ∧ Below W.heap.size W w') := Lib.hid fun W => tagtext_any true 1 W (by omega)
    generalize ttx true 1 = y1 at *
    obtain ⟨b1, hb1⟩ : ∃ b1, (x.toList == y1.toList) = b1 := ⟨_, rfl⟩
    rw [hb1] at HV2
    have X2 : Hid (∀ W, Calls Try.prog 16 #[.int .i64 2, .bool true] W fun e w' => e = .returned (.string (ttx true 2)) ∧ Below W.heap.size W w') := Lib.hid fun W => tagtext_any true 2 W (by omega)
    generalize ttx true 2 = y2 at *
    obtain ⟨b2, hb2⟩ : ∃ b2, (x.toList == y2.toList) = b2 := ⟨_, rfl⟩
    rw [hb2] at HV2
    have X3 : Hid (∀ W, Calls Try.prog 16 #[.int .i64 3, .bool true] W fun e w' => e = .returned (.string (ttx true 3)) ∧ Below W.heap.size W w') := Lib.hid fun W => tagtext_any true 3 W (by omega)
    generalize ttx true 3 = y3 at *
    obtain ⟨b3, hb3⟩ : ∃ b3, (x.toList == y3.toList) = b3 := ⟨_, rfl⟩
    rw [hb3] at HV2
    subst h12
    clear HV
    go_enter Try.func18, Try.ntmps18
    go_wp2
    go_loopw [5] (fun v wr => Below (w.alloc (.cells #[.int .i64 12, .int .i64 f, .int .i64 t] 31)).heap.size (w.alloc (.cells #[.int .i64 12, .int .i64 f, .int .i64 t] 31)) wr ∧ (v = .int .i64 1 ∨ (v = .int .i64 2 ∧ Hid (b1 = false)) ∨ (v = .int .i64 3 ∧ Hid (b1 = false ∧ b2 = false)) ∨ (v = .int .i64 4 ∧ Hid (b1 = false ∧ b2 = false ∧ b3 = false)))) (fun v _ => 4 - (intOf v).toNat)
    case atStart => exact ⟨Below.refl _ _, .inl rfl⟩
    case round =>
      obtain ⟨hbw, hrel⟩ := hrel
      obtain ⟨k0, k1, k2⟩ := HH.out _ hbw
      rcases hrel with rfl | ⟨rfl, H⟩ | ⟨rfl, H⟩ | ⟨rfl, H⟩
      · cases b1
        · go_wp2_with (first
            | (go_at_call 17; ((with_reducible refine (HT.out _).mono ?_); rintro e wn ⟨rfl, hbn⟩; replace hbw := below_call hbw hbn; clear hbn k0 k1 k2; obtain ⟨k0, k1, k2⟩ := HH.out _ hbw))
            | (go_at_call 16; ((with_reducible refine (X1.out _).mono ?_); rintro e wn ⟨rfl, hbn⟩; replace hbw := below_call hbw hbn; clear hbn k0 k1 k2; obtain ⟨k0, k1, k2⟩ := HH.out _ hbw)))
          go_roundw
          case rel => exact ⟨hbw, .inr (.inl ⟨rfl, Lib.hid (by simp)⟩)⟩
          case measure => simp [intOf]
        · have HW : Hid (R = 1) := Lib.hid (by have h := HV2.out; simpa using h)
          go_wp2_with (first
            | (go_at_call 17; ((with_reducible refine (HT.out _).mono ?_); rintro e wn ⟨rfl, hbn⟩; replace hbw := below_call hbw hbn; clear hbn k0 k1 k2; obtain ⟨k0, k1, k2⟩ := HH.out _ hbw))
            | (go_at_call 16; ((with_reducible refine (X1.out _).mono ?_); rintro e wn ⟨rfl, hbn⟩; replace hbw := below_call hbw hbn; clear hbn k0 k1 k2; obtain ⟨k0, k1, k2⟩ := HH.out _ hbw)))
          go_ret
          exact ⟨by rw [HW.out]; rfl, hx0.trans (hbw.mono (by simp))⟩
      · obtain rfl := H.out
        cases b2
        · go_wp2_with (first
            | (go_at_call 17; ((with_reducible refine (HT.out _).mono ?_); rintro e wn ⟨rfl, hbn⟩; replace hbw := below_call hbw hbn; clear hbn k0 k1 k2; obtain ⟨k0, k1, k2⟩ := HH.out _ hbw))
            | (go_at_call 16; ((with_reducible refine (X2.out _).mono ?_); rintro e wn ⟨rfl, hbn⟩; replace hbw := below_call hbw hbn; clear hbn k0 k1 k2; obtain ⟨k0, k1, k2⟩ := HH.out _ hbw)))
          go_roundw
          case rel => exact ⟨hbw, .inr (.inr (.inl ⟨rfl, Lib.hid (by simp)⟩))⟩
          case measure => simp [intOf]
        · have HW : Hid (R = 2) := Lib.hid (by have h := HV2.out; simpa using h)
          go_wp2_with (first
            | (go_at_call 17; ((with_reducible refine (HT.out _).mono ?_); rintro e wn ⟨rfl, hbn⟩; replace hbw := below_call hbw hbn; clear hbn k0 k1 k2; obtain ⟨k0, k1, k2⟩ := HH.out _ hbw))
            | (go_at_call 16; ((with_reducible refine (X2.out _).mono ?_); rintro e wn ⟨rfl, hbn⟩; replace hbw := below_call hbw hbn; clear hbn k0 k1 k2; obtain ⟨k0, k1, k2⟩ := HH.out _ hbw)))
          go_ret
          exact ⟨by rw [HW.out]; rfl, hx0.trans (hbw.mono (by simp))⟩
      · obtain ⟨rfl, rfl⟩ := H.out
        cases b3
        · go_wp2_with (first
            | (go_at_call 17; ((with_reducible refine (HT.out _).mono ?_); rintro e wn ⟨rfl, hbn⟩; replace hbw := below_call hbw hbn; clear hbn k0 k1 k2; obtain ⟨k0, k1, k2⟩ := HH.out _ hbw))
            | (go_at_call 16; ((with_reducible refine (X3.out _).mono ?_); rintro e wn ⟨rfl, hbn⟩; replace hbw := below_call hbw hbn; clear hbn k0 k1 k2; obtain ⟨k0, k1, k2⟩ := HH.out _ hbw)))
          go_roundw
          case rel => exact ⟨hbw, .inr (.inr (.inr ⟨rfl, Lib.hid (by simp)⟩))⟩
          case measure => simp [intOf]
        · have HW : Hid (R = 3) := Lib.hid (by have h := HV2.out; simpa using h)
          go_wp2_with (first
            | (go_at_call 17; ((with_reducible refine (HT.out _).mono ?_); rintro e wn ⟨rfl, hbn⟩; replace hbw := below_call hbw hbn; clear hbn k0 k1 k2; obtain ⟨k0, k1, k2⟩ := HH.out _ hbw))
            | (go_at_call 16; ((with_reducible refine (X3.out _).mono ?_); rintro e wn ⟨rfl, hbn⟩; replace hbw := below_call hbw hbn; clear hbn k0 k1 k2; obtain ⟨k0, k1, k2⟩ := HH.out _ hbw)))
          go_ret
          exact ⟨by rw [HW.out]; rfl, hx0.trans (hbw.mono (by simp))⟩
      · obtain ⟨rfl, rfl, rfl⟩ := H.out
        have HW : Hid (R = 0) := Lib.hid (by have h := HV2.out; simpa using h)
        go_wp2
        go_ret
        exact ⟨by rw [HW.out]; rfl, hx0.trans (hbw.mono (by simp))⟩
  have HW : Hid (TG K (bl x) = 0) := Lib.hid (by unfold TG; rw [if_neg h11, if_neg h12])
  have q1 : (K == 11) = false := by simpa using h11
  have q2 : (K == 12) = false := by simpa using h12
  generalize TG K (bl x) = R at *
  clear h11 h12 HT
  go_enter Try.func18, Try.ntmps18
  go_wp2
  go_loopw [5] (fun v wr => Below (w.alloc (.cells #[.int .i64 K, .int .i64 f, .int .i64 t] 31)).heap.size (w.alloc (.cells #[.int .i64 K, .int .i64 f, .int .i64 t] 31)) wr ∧ ∃ k : Nat, 1 ≤ k ∧ k ≤ 4 ∧ v = .int .i64 k) (fun v _ => 4 - (intOf v).toNat)
  case atStart => exact ⟨Below.refl _ _, 1, by omega, by omega, rfl⟩
  case round =>
    obtain ⟨hbw, k, hk1, hk4, rfl⟩ := hrel
    obtain ⟨k0, k1, k2⟩ := HH.out _ hbw
    by_cases hk : k ≤ 3
    · have hk' : (k : Int) ≤ 3 := by omega
      go_wp2
      go_roundw
      case rel => exact ⟨hbw, k + 1, by omega, by omega, by go_num⟩
      case measure => simp [intOf]; omega
    · have hk' : ¬ (k : Int) ≤ 3 := by omega
      go_wp2
      go_ret
      exact ⟨by rw [HW.out]; rfl, hx0.trans (hbw.mono (by simp))⟩

set_option maxRecDepth 100000 in
set_option maxHeartbeats 8000000 in
theorem lawalone_walk (s : ByteArray) (m : Int) (w : World) (hm : w.cell? ⟨0, 0, none⟩ = some (.int .i64 m)) :
    Calls Try.prog 6 #[.string s] w fun e w' => e = .returned (.bool true) ∧ Below w.heap.size w w' := by
  have h0 : 0 < w.heap.size := World.block_lt_of_cell? _ _ hm
  have hx := Below.refl w.heap.size w
  by_cases h1 : (600 : Int) < (s.size : Int)
  · go_enter Try.func6, Try.ntmps6
    go_wp2_with (first | (go_at_call 9; ((with_reducible refine (known_any m _ ((hx.cell (p := ⟨0, 0, none⟩) h0).trans hm)).mono ?_); rintro e wn ⟨rfl, hbn⟩; replace hx := below_call hx hbn; clear hbn)))
    go_ret
    exact ⟨rfl, hx⟩
  have HA := Lib.hid (scan_any s m w (by omega) hm)
  have HX : Hid (∀ (k : Nat) (x : Tok), (SC (bl s))[k]? = some x → x.2.1 < x.2.2 ∧ x.2.2 ≤ s.size ∧ SC (bl (s.extract x.2.1 x.2.2)) = [(x.1, 0, x.2.2 - x.2.1)]) := Lib.hid fun k x h => by
    have h1 := sc_at (bl s) h
    rw [bl_len] at h1
    have h2 := SC_alone (bl s) x (List.mem_of_getElem? h)
    refine ⟨h1.2.1, h1.2.2.1, ?_⟩
    have e : bl (s.extract x.2.1 x.2.2) = ((bl s).drop x.2.1).take (x.2.2 - x.2.1) := Lib.extract_data s _ _
    rw [e]
    exact h2
  have HLN : Hid ((SC (bl s)).length ≤ s.size) := Lib.hid (by have := chain_len (SC_chain (bl s)); rw [bl_len] at this; omega)
  generalize SC (bl s) = S at *
  obtain ⟨N, hN⟩ : ∃ N, N = S.length := ⟨_, rfl⟩
  rw [← hN] at HA HLN
  have HN := Lib.hid hN
  have hNs := HLN.out
  clear hN
  go_enter Try.func6, Try.ntmps6
  go_wp2_with (first
    | (go_at_call 10; go_must (refine HA.out.mono ?_; rintro e w1 ⟨A, c, rfl, ho, hb1⟩; clear hx)))
  have HO := Lib.hid fun h => RdT.opened ho.rd h
  clear ho
  go_loopw [5] (fun v5 wr => ∃ k : Nat, k ≤ N ∧ v5 = .int .i64 k ∧ Below w1.heap.size w1 wr) (fun v5 _ => N - (intOf v5).toNat)
  case atStart => exact ⟨0, Nat.zero_le _, rfl, Below.refl _ _⟩
  case round =>
    obtain ⟨k, hk, rfl, hbw⟩ := hrel
    by_cases hlt : k < N
    · obtain ⟨b, off, rfl, hb, hc⟩ := HO.out (by omega)
      obtain ⟨x, hx⟩ : ∃ x, S[k]? = some x := ⟨S[k]'(by rw [← HN.out]; exact hlt), List.getElem?_eq_getElem _⟩
      have hcx := hc k x hx
      obtain ⟨y2, y3, y4⟩ := HX.out k x hx
      clear hc hx
      obtain ⟨x0, x1, x2⟩ := x
      simp only at hcx y2 y3 y4
      have HC : Hid (∀ W, Below w1.heap.size w1 W → W.cell? ⟨b, off + k * 3, none⟩ = some (.int .i64 (x0 : Int)) ∧ W.cell? ⟨b, off + k * 3 + 1, none⟩ = some (.int .i64 (x1 : Int)) ∧ W.cell? ⟨b, off + k * 3 + 2, none⟩ = some (.int .i64 (x2 : Int))) := Lib.hid fun W hW =>
        ⟨(hW.cell (p := ⟨b, off + k * 3, none⟩) hb).trans hcx.1, (hW.cell (p := ⟨b, off + k * 3 + 1, none⟩) hb).trans hcx.2.1, (hW.cell (p := ⟨b, off + k * 3 + 2, none⟩) hb).trans hcx.2.2⟩
      clear hcx
      obtain ⟨p0, p1, p2⟩ := HC.out _ hbw
      have hxz : (s.extract x1 x2).size = x2 - x1 := by rw [ByteArray.size_extract]; omega
      have HT : Hid (∀ W, Calls Try.prog 14 #[.string s, .agg #[.int .i64 (x0 : Int), .int .i64 (x1 : Int), .int .i64 (x2 : Int)]] W fun e w' => e = .returned (.string (s.extract x1 x2)) ∧ Below W.heap.size W w') := Lib.hid fun W => by
        have := text_any s x0 x1 x2 W
        rwa [TT_in (by omega) y3] at this
      have HG : Hid (∀ W, Calls Try.prog 15 #[.string s, .agg #[.int .i64 (x0 : Int), .int .i64 (x1 : Int), .int .i64 (x2 : Int)]] W fun e w' => e = .returned (.int .i64 (TG x0 (bl (s.extract x1 x2)) : Int)) ∧ Below W.heap.size W w') := Lib.hid fun W => by
        have := tag_any s x0 x1 x2 W
        rwa [TT_in (by omega) y3] at this
      have HG2 : Hid (∀ W, Calls Try.prog 15 #[.string (s.extract x1 x2), .agg #[.int .i64 (x0 : Int), .int .i64 0, .int .i64 ((x2 - x1 : Nat) : Int)]] W fun e w' => e = .returned (.int .i64 (TG x0 (bl (s.extract x1 x2)) : Int)) ∧ Below W.heap.size W w') := Lib.hid fun W => by
        have := tag_any (s.extract x1 x2) x0 ((0 : Nat) : Int) ((x2 - x1 : Nat) : Int) W
        rw [TT_in (Nat.zero_le _) (by omega)] at this
        rw [show (s.extract x1 x2).extract 0 (x2 - x1) = s.extract x1 x2 by rw [← hxz]; exact ext_whole _] at this
        exact this
      have HSX : Hid (∀ W, W.cell? ⟨0, 0, none⟩ = some (.int .i64 m) → Calls Try.prog 10 #[.string (s.extract x1 x2)] W fun e w' => ∃ A c, e = .returned (.tuple #[.slice A 1 c, .int .i64 0]) ∧ OwR RT 3 w' W.heap.size 31 A 1 c [(x0, 0, x2 - x1)] ∧ Below W.heap.size W w') := Lib.hid fun W hW => by
        have := scan_any (s.extract x1 x2) m W (by omega) hW
        rwa [y4] at this
      generalize TG x0 (bl (s.extract x1 x2)) = g at *
      generalize s.extract x1 x2 = x at *
      generalize x2 - x1 = z at *
      have g0 : (0 : Int) ≤ (k : Int) := by omega
      have g1 : (k : Int) < (N : Int) := by omega
      have hbm := below_call hb1 hbw
      have hmr := (hbm.cell (p := ⟨0, 0, none⟩) h0).trans hm
      clear y2 y3 y4 hbm
      go_wp2_with (first
        | (go_at_call 14; ((with_reducible refine (HT.out _).mono ?_); rintro e w2 ⟨rfl, hb2⟩; have hm2 := (hb2.cell (p := ⟨0, 0, none⟩) (World.block_lt_of_cell? _ _ hmr)).trans hmr; replace hbw := below_call hbw hb2; clear hb2 hmr p0 p1 p2))
        | (go_at_call 10; ((with_reducible refine (HSX.out _ hm2).mono ?_); rintro e w3 ⟨A3, c3, rfl, ho3, hb3⟩; replace hbw := below_call hbw hb3; clear hb3 hm2)))
      obtain ⟨b3, off3, rfl, hb3, hc3⟩ := RdT.opened ho3.rd (Nat.succ_pos _)
      have hcx3 := hc3 0 (x0, 0, z) rfl
      simp only [Nat.zero_mul, Nat.add_zero] at hcx3
      have HK : Hid (∀ W, Below w3.heap.size w3 W → W.cell? ⟨b, off + k * 3, none⟩ = some (.int .i64 (x0 : Int)) ∧ W.cell? ⟨b, off + k * 3 + 1, none⟩ = some (.int .i64 (x1 : Int)) ∧ W.cell? ⟨b, off + k * 3 + 2, none⟩ = some (.int .i64 (x2 : Int)) ∧ W.cell? ⟨b3, off3, none⟩ = some (.int .i64 (x0 : Int)) ∧ W.cell? ⟨b3, off3 + 1, none⟩ = some (.int .i64 0) ∧ W.cell? ⟨b3, off3 + 2, none⟩ = some (.int .i64 (z : Int))) := Lib.hid fun W hW => by
        obtain ⟨a0, a1, a2⟩ := HC.out W (below_call hbw hW)
        exact ⟨a0, a1, a2, (hW.cell (p := ⟨b3, off3, none⟩) hb3).trans hcx3.1, (hW.cell (p := ⟨b3, off3 + 1, none⟩) hb3).trans hcx3.2.1, (hW.cell (p := ⟨b3, off3 + 2, none⟩) hb3).trans hcx3.2.2⟩
      clear hc3 hcx3 ho3
      obtain ⟨p0, p1, p2, p3, p4, p5⟩ := HK.out _ (Below.refl _ _)
      go_region_held3 (fun W => W.cell? ⟨b, off + k * 3, none⟩ = some (.int .i64 (x0 : Int)) ∧ W.cell? ⟨b, off + k * 3 + 1, none⟩ = some (.int .i64 (x1 : Int)) ∧ W.cell? ⟨b, off + k * 3 + 2, none⟩ = some (.int .i64 (x2 : Int)) ∧ W.cell? ⟨b3, off3, none⟩ = some (.int .i64 (x0 : Int)) ∧ W.cell? ⟨b3, off3 + 1, none⟩ = some (.int .i64 0) ∧ W.cell? ⟨b3, off3 + 2, none⟩ = some (.int .i64 (z : Int)))
        ((refine HK.out _ ?_; (refine bel_out ?_; (focus (repeat' first | (with_reducible refine bel_refl ?_) | with_reducible assumption | with_reducible refine bel_drew ?_ | with_reducible refine bel_drewN _ ?_ | with_reducible refine bel_alloc _ ?_ | with_reducible refine bel_set ?_ _ ?_ | (with_reducible apply bel_call; with_reducible assumption) | (with_reducible apply bel_owg; with_reducible assumption; (focus omega)) | with_reducible exact Nat.le_refl _ | omega | (simp; done) | (simp; omega)))); done))
        (first
          | (go_at_call 15; ((with_reducible refine (HG.out _).mono ?_); rintro e w5 ⟨rfl, hb5⟩))
          | (go_at_call 15; ((with_reducible refine (HG2.out _).mono ?_); rintro e w6 ⟨rfl, hb6⟩)))
      go_wp2
      go_roundw
      case rel => exact ⟨k + 1, by omega, by go_num, by (refine bel_out ?_; (focus (repeat' first | (with_reducible refine bel_refl ?_) | with_reducible assumption | with_reducible refine bel_drew ?_ | with_reducible refine bel_drewN _ ?_ | with_reducible refine bel_alloc _ ?_ | with_reducible refine bel_set ?_ _ ?_ | (with_reducible apply bel_call; with_reducible assumption) | (with_reducible apply bel_owg; with_reducible assumption; (focus omega)) | with_reducible exact Nat.le_refl _ | omega | (simp; done) | (simp; omega))))⟩
      case measure => simp [intOf]; omega
    · have hx := below_call hb1 hbw
      go_wp2_with (first | (go_at_call 9; ((with_reducible refine (known_any m _ ((hx.cell (p := ⟨0, 0, none⟩) h0).trans hm)).mono ?_); rintro e wn ⟨rfl, hbn⟩; replace hx := below_call hx hbn; clear hbn)))
      go_ret
      exact ⟨rfl, hx⟩
end Go.Proofs.Ytpcnfblpoepmbaa
