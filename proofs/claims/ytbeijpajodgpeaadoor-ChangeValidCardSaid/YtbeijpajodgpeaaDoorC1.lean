/- The walks of IsName and isUser, both. -/
import Derived.Test.YtbeijpajodgpeaaDoorCP1
import Derived.Test.YtbeijpajodgpeaaDoorQ1
namespace Go.Proofs.YtbeijpajodgpeaaDoor
open Go.RowKit
set_option linter.unusedSimpArgs false
set_option linter.unusedVariables false

theorem bAt_eq {s : ByteArray} {k : Nat} (h : k < s.size) : bAt s k = s[k] := by
  unfold bAt
  have hl : k < s.data.toList.length := by simpa using h
  simp only [List.getD, List.getElem?_eq_getElem hl, Option.getD_some]
  rfl
theorem isNm_no1 {s : ByteArray} (h : ¬ (1 ≤ s.size ∧ s.size ≤ 30)) : isNm s = false := by unfold isNm; rw [decide_eq_false h]; rfl
theorem isNm_no2 {s : ByteArray} (h0 : 0 < s.size) (h : ¬ (97 ≤ s[0].toNat ∧ s[0].toNat ≤ 122)) : isNm s = false := by
  unfold isNm
  rw [bAt_eq h0, decide_eq_false h, Bool.and_false, Bool.false_and]
theorem isNm_no3 {s : ByteArray} {k : Nat} (hk : k < s.size) (h : nmB s[k] = false) : isNm s = false := by
  unfold isNm
  rw [Bool.and_eq_false_iff]
  refine .inr (List.all_eq_false.2 ⟨k, List.mem_range.2 hk, ?_⟩)
  rw [bAt_eq hk, h]
  decide
theorem isNm_yes {s : ByteArray} (h1 : 1 ≤ s.size ∧ s.size ≤ 30) (h2 : 97 ≤ s[0].toNat ∧ s[0].toNat ≤ 122) (h3 : ∀ j, j < s.size → nmB (bAt s j) = true) : isNm s = true := by
  unfold isNm
  rw [bAt_eq (by omega), decide_eq_true h1, decide_eq_true h2, List.all_eq_true.2 fun j hj => h3 j (List.mem_range.1 hj)]
  rfl
theorem str_ne {x : ByteArray} (h : x.size ≠ 0) : x.toList ≠ [] ∧ x.toList.isEmpty = false ∧ (x.toList == []) = false ∧ (!x.toList.isEmpty) = true := by
  have hne : x.toList ≠ [] := by
    rw [ByteArray.toList_eq]
    intro e
    have : x.data.size = 0 := by rw [← Array.length_toList, e]; rfl
    exact h this
  have hi : x.toList.isEmpty = false := by
    rw [Bool.eq_false_iff]
    exact fun h => hne (List.isEmpty_iff.1 h)
  exact ⟨hne, hi, by rw [beq_eq_false_iff_ne]; exact hne, by rw [hi]; rfl⟩
/-- the ways through the test of a byte -/
theorem nmB_ways (c : UInt8) : (nmB c = true ∧ ((97 ≤ c.toNat ∧ c.toNat ≤ 122) ∨ (48 ≤ c.toNat ∧ c.toNat ≤ 57) ∨ c = 45 ∨ c = 95)) ∨ (nmB c = false ∧ ¬ (97 ≤ c.toNat ∧ c.toNat ≤ 122) ∧ ¬ (48 ≤ c.toNat ∧ c.toNat ≤ 57) ∧ c ≠ 45 ∧ c ≠ 95) := by
  have e1 : c.toNat = 45 ↔ c = 45 := ⟨fun h => UInt8.toNat_inj.1 h, fun h => by rw [h]; rfl⟩
  have e2 : c.toNat = 95 ↔ c = 95 := ⟨fun h => UInt8.toNat_inj.1 h, fun h => by rw [h]; rfl⟩
  unfold nmB
  by_cases h1 : 97 ≤ c.toNat ∧ c.toNat ≤ 122
  · exact .inl ⟨by simp [h1], .inl h1⟩
  by_cases h2 : 48 ≤ c.toNat ∧ c.toNat ≤ 57
  · exact .inl ⟨by simp [h2], .inr (.inl h2)⟩
  by_cases h3 : c = 45
  · exact .inl ⟨by subst h3; decide, .inr (.inr (.inl h3))⟩
  by_cases h4 : c = 95
  · exact .inl ⟨by subst h4; decide, .inr (.inr (.inr h4))⟩
  exact .inr ⟨by rw [decide_eq_false h1, decide_eq_false h2, decide_eq_false (fun e => h3 (e1.1 e)), decide_eq_false (fun e => h4 (e2.1 e))]; rfl, h1, h2, h3, h4⟩

set_option maxRecDepth 100000 in
set_option maxHeartbeats 4000000 in
theorem isname_any (s : ByteArray) (w : World) :
    Calls Tryd.prog 67 #[.string s] w fun e w' => e = .returned (.bool (isNm s)) ∧ w = w' := by
  by_cases h : 1 ≤ s.size ∧ s.size ≤ 30
  · by_cases h2 : 97 ≤ s[0].toNat ∧ s[0].toNat ≤ 122
    · obtain ⟨hs1, hs2⟩ := h
      obtain ⟨a1, a2⟩ := h2
      have b1 : (97 : Int) ≤ (s[0].toNat : Int) := by omega
      have b2 : (s[0].toNat : Int) ≤ 122 := by omega
      have HY := Lib.hid (fun h3 => isNm_yes (s := s) ⟨hs1, hs2⟩ ⟨a1, a2⟩ h3)
      have z0 : 0 < s.size := by omega
      go_enter Tryd.func67, Tryd.ntmps67
      go_wp2
      go_loop [25] (fun v => ∃ k : Nat, k ≤ s.size ∧ v = .int .i64 k ∧ Hid (∀ j, j < k → nmB (bAt s j) = true)) (fun v => s.size - (intOf v).toNat)
      case atStart => exact ⟨0, Nat.zero_le _, rfl, Lib.hid fun j h => by omega⟩
      case round =>
        obtain ⟨k, hk, rfl, HB⟩ := hrel
        clear b1 b2 a1 a2
        by_cases hlt : k < s.size
        · have q0 : (0 : Int) ≤ (k : Int) := by omega
          have q1 : (k : Int) < (s.size : Int) := by omega
          have hbe := Lib.hid (bAt_eq hlt)
          have HN := Lib.hid (fun h => isNm_no3 (s := s) hlt h)
          have HW := nmB_ways s[k]
          have HS : Hid (nmB s[k] = true → ∀ j, j < k + 1 → nmB (bAt s j) = true) := Lib.hid fun h j hj => by
            rcases Nat.lt_or_ge j k with h1 | h1
            · exact HB.out j h1
            · obtain rfl : j = k := by omega
              rw [hbe.out]; exact h
          have u1 : ∀ c : UInt8, ((s[k].toNat : Int) == (c.toNat : Int)) = decide (s[k] = c) := fun c => u8_eq
          have u2 : ∀ c : UInt8, ((s[k].toNat : Int) != (c.toNat : Int)) = !decide (s[k] = c) := fun c => by rw [bne, u8_eq]
          have v1 : ((s[k].toNat : Int) != 45) = !decide (s[k] = 45) := u2 45
          have v2 : ((s[k].toNat : Int) != 95) = !decide (s[k] = 95) := u2 95
          have v3 : ((s[k].toNat : Int) == 45) = decide (s[k] = 45) := u1 45
          have v4 : ((s[k].toNat : Int) == 95) = decide (s[k] = 95) := u1 95
          clear u1 u2 HB hbe
          rcases HW with ⟨hn, hc⟩ | ⟨hn, c1, c2, c3, c4⟩
          · have HS2 := Lib.hid (HS.out hn)
            clear HS HN hn
            have hcs : (97 ≤ s[k].toNat ∧ s[k].toNat ≤ 122) ∨ (s[k].toNat < 97 ∧ 48 ≤ s[k].toNat ∧ s[k].toNat ≤ 57) ∨ (s[k].toNat < 48 ∧ s[k] = 45) ∨ (s[k].toNat < 97 ∧ 57 < s[k].toNat ∧ s[k] = 95) := by
              rcases hc with h | h | h | h
              · exact .inl h
              · exact .inr (.inl ⟨by omega, h⟩)
              · exact .inr (.inr (.inl ⟨by rw [h]; decide, h⟩))
              · exact .inr (.inr (.inr ⟨by rw [h]; decide, by rw [h]; decide, h⟩))
            clear hc
            rcases hcs with ⟨d1, d2⟩ | ⟨d0, d1, d2⟩ | ⟨d1, d2⟩ | ⟨d0, d1, d2⟩
            · have e1 : ¬ (s[k].toNat : Int) < 97 := by omega
              have e2 : ¬ (122 : Int) < (s[k].toNat : Int) := by omega
              clear v1 v2 v3 v4
              go_wp2
              go_round
              case rel => exact ⟨k + 1, by omega, by go_num, HS2⟩
              case measure => simp [intOf]; omega
            · have e0 : (s[k].toNat : Int) < 97 := by omega
              have e1 : ¬ (s[k].toNat : Int) < 48 := by omega
              have e2 : ¬ (57 : Int) < (s[k].toNat : Int) := by omega
              clear v1 v2 v3 v4
              go_wp2
              go_round
              case rel => exact ⟨k + 1, by omega, by go_num, HS2⟩
              case measure => simp [intOf]; omega
            · have e0 : (s[k].toNat : Int) < 97 := by omega
              have e1 : (s[k].toNat : Int) < 48 := by omega
              rw [decide_eq_true d2] at v1 v3
              clear v2 v4 d2
              go_wp2
              go_round
              case rel => exact ⟨k + 1, by omega, by go_num, HS2⟩
              case measure => simp [intOf]; omega
            · have e0 : (s[k].toNat : Int) < 97 := by omega
              have e1 : ¬ (s[k].toNat : Int) < 48 := by omega
              have e2 : (57 : Int) < (s[k].toNat : Int) := by omega
              have hne : ¬ s[k] = 45 := by rw [d2]; decide
              rw [decide_eq_true d2] at v2 v4
              rw [decide_eq_false hne] at v1 v3
              clear d2 hne
              go_wp2
              go_round
              case rel => exact ⟨k + 1, by omega, by go_num, HS2⟩
              case measure => simp [intOf]; omega
          · have HF := Lib.hid (HN.out hn)
            rw [decide_eq_false c4] at v2 v4
            rw [decide_eq_false c3] at v1 v3
            clear HS HN hn c3 c4
            have hcs : s[k].toNat < 48 ∨ (57 < s[k].toNat ∧ s[k].toNat < 97) ∨ 122 < s[k].toNat := by omega
            clear c1 c2
            rcases hcs with d1 | ⟨d1, d2⟩ | d1
            · have e0 : (s[k].toNat : Int) < 97 := by omega
              have e1 : (s[k].toNat : Int) < 48 := by omega
              go_wp2
              go_ret
              exact ⟨by first | (rw [HF.out]; done) | (rw [HF.out]; rfl), rfl⟩
            · have e0 : (s[k].toNat : Int) < 97 := by omega
              have e1 : ¬ (s[k].toNat : Int) < 48 := by omega
              have e2 : (57 : Int) < (s[k].toNat : Int) := by omega
              go_wp2
              go_ret
              exact ⟨by first | (rw [HF.out]; done) | (rw [HF.out]; rfl), rfl⟩
            · have e0 : ¬ (s[k].toNat : Int) < 97 := by omega
              have e3 : (122 : Int) < (s[k].toNat : Int) := by omega
              have e1 : ¬ (s[k].toNat : Int) < 48 := by omega
              have e2 : (57 : Int) < (s[k].toNat : Int) := by omega
              go_wp2
              go_ret
              exact ⟨by first | (rw [HF.out]; done) | (rw [HF.out]; rfl), rfl⟩
        · obtain rfl : k = s.size := by omega
          have HF := Lib.hid (HY.out HB.out)
          go_wp2
          go_ret
          exact ⟨by first | (rw [HF.out]; done) | (rw [HF.out]; rfl), rfl⟩
    · have HF := Lib.hid (isNm_no2 (s := s) (by omega) h2)
      obtain ⟨hs1, hs2⟩ := h
      have z0 : 0 < s.size := by omega
      by_cases h3 : (s[0].toNat : Int) < 97
      · clear h2
        go_enter Tryd.func67, Tryd.ntmps67
        go_wp2
        go_ret
        exact ⟨by first | (rw [HF.out]; done) | (rw [HF.out]; rfl), rfl⟩
      · have h4 : (122 : Int) < (s[0].toNat : Int) := by omega
        clear h2
        go_enter Tryd.func67, Tryd.ntmps67
        go_wp2
        go_ret
        exact ⟨by first | (rw [HF.out]; done) | (rw [HF.out]; rfl), rfl⟩
  · have HF := Lib.hid (isNm_no1 h)
    by_cases h0 : s.size < 1
    · clear h
      have z1 : (s.size : Int) < 1 := by omega
      go_enter Tryd.func67, Tryd.ntmps67
      go_wp2
      go_ret
      exact ⟨by first | (rw [HF.out]; done) | (rw [HF.out]; rfl), rfl⟩
    · have h3 : 30 < s.size := by omega
      have z1 : ¬ (s.size : Int) < 1 := by omega
      have z2 : (30 : Int) < (s.size : Int) := by omega
      clear h
      go_enter Tryd.func67, Tryd.ntmps67
      go_wp2
      go_ret
      exact ⟨by first | (rw [HF.out]; done) | (rw [HF.out]; rfl), rfl⟩
set_option maxRecDepth 100000 in
set_option maxHeartbeats 4000000 in
theorem risname_any (s : ByteArray) (w : World) :
    Calls Tryd.prog 71 #[.string s] w fun e w' => e = .returned (.bool (isNm s)) ∧ w = w' := by
  by_cases h : 1 ≤ s.size ∧ s.size ≤ 30
  · by_cases h2 : 97 ≤ s[0].toNat ∧ s[0].toNat ≤ 122
    · obtain ⟨hs1, hs2⟩ := h
      obtain ⟨a1, a2⟩ := h2
      have b1 : (97 : Int) ≤ (s[0].toNat : Int) := by omega
      have b2 : (s[0].toNat : Int) ≤ 122 := by omega
      have HY := Lib.hid (fun h3 => isNm_yes (s := s) ⟨hs1, hs2⟩ ⟨a1, a2⟩ h3)
      have z0 : 0 < s.size := by omega
      go_enter Tryd.func71, Tryd.ntmps71
      go_wp2
      go_loop [3] (fun v => ∃ k : Nat, k ≤ s.size ∧ v = .int .i64 k ∧ Hid (∀ j, j < k → nmB (bAt s j) = true)) (fun v => s.size - (intOf v).toNat)
      case atStart => exact ⟨0, Nat.zero_le _, rfl, Lib.hid fun j h => by omega⟩
      case round =>
        obtain ⟨k, hk, rfl, HB⟩ := hrel
        clear b1 b2 a1 a2
        by_cases hlt : k < s.size
        · have q0 : (0 : Int) ≤ (k : Int) := by omega
          have q1 : (k : Int) < (s.size : Int) := by omega
          have hbe := Lib.hid (bAt_eq hlt)
          have HN := Lib.hid (fun h => isNm_no3 (s := s) hlt h)
          have HW := nmB_ways s[k]
          have HS : Hid (nmB s[k] = true → ∀ j, j < k + 1 → nmB (bAt s j) = true) := Lib.hid fun h j hj => by
            rcases Nat.lt_or_ge j k with h1 | h1
            · exact HB.out j h1
            · obtain rfl : j = k := by omega
              rw [hbe.out]; exact h
          have u1 : ∀ c : UInt8, ((s[k].toNat : Int) == (c.toNat : Int)) = decide (s[k] = c) := fun c => u8_eq
          have u2 : ∀ c : UInt8, ((s[k].toNat : Int) != (c.toNat : Int)) = !decide (s[k] = c) := fun c => by rw [bne, u8_eq]
          have v1 : ((s[k].toNat : Int) != 45) = !decide (s[k] = 45) := u2 45
          have v2 : ((s[k].toNat : Int) != 95) = !decide (s[k] = 95) := u2 95
          have v3 : ((s[k].toNat : Int) == 45) = decide (s[k] = 45) := u1 45
          have v4 : ((s[k].toNat : Int) == 95) = decide (s[k] = 95) := u1 95
          clear u1 u2 HB hbe
          rcases HW with ⟨hn, hc⟩ | ⟨hn, c1, c2, c3, c4⟩
          · have HS2 := Lib.hid (HS.out hn)
            clear HS HN hn
            have hcs : (97 ≤ s[k].toNat ∧ s[k].toNat ≤ 122) ∨ (s[k].toNat < 97 ∧ 48 ≤ s[k].toNat ∧ s[k].toNat ≤ 57) ∨ (s[k].toNat < 48 ∧ s[k] = 45) ∨ (s[k].toNat < 97 ∧ 57 < s[k].toNat ∧ s[k] = 95) := by
              rcases hc with h | h | h | h
              · exact .inl h
              · exact .inr (.inl ⟨by omega, h⟩)
              · exact .inr (.inr (.inl ⟨by rw [h]; decide, h⟩))
              · exact .inr (.inr (.inr ⟨by rw [h]; decide, by rw [h]; decide, h⟩))
            clear hc
            rcases hcs with ⟨d1, d2⟩ | ⟨d0, d1, d2⟩ | ⟨d1, d2⟩ | ⟨d0, d1, d2⟩
            · have e1 : ¬ (s[k].toNat : Int) < 97 := by omega
              have e2 : ¬ (122 : Int) < (s[k].toNat : Int) := by omega
              clear v1 v2 v3 v4
              go_wp2
              go_round
              case rel => exact ⟨k + 1, by omega, by go_num, HS2⟩
              case measure => simp [intOf]; omega
            · have e0 : (s[k].toNat : Int) < 97 := by omega
              have e1 : ¬ (s[k].toNat : Int) < 48 := by omega
              have e2 : ¬ (57 : Int) < (s[k].toNat : Int) := by omega
              clear v1 v2 v3 v4
              go_wp2
              go_round
              case rel => exact ⟨k + 1, by omega, by go_num, HS2⟩
              case measure => simp [intOf]; omega
            · have e0 : (s[k].toNat : Int) < 97 := by omega
              have e1 : (s[k].toNat : Int) < 48 := by omega
              rw [decide_eq_true d2] at v1 v3
              clear v2 v4 d2
              go_wp2
              go_round
              case rel => exact ⟨k + 1, by omega, by go_num, HS2⟩
              case measure => simp [intOf]; omega
            · have e0 : (s[k].toNat : Int) < 97 := by omega
              have e1 : ¬ (s[k].toNat : Int) < 48 := by omega
              have e2 : (57 : Int) < (s[k].toNat : Int) := by omega
              have hne : ¬ s[k] = 45 := by rw [d2]; decide
              rw [decide_eq_true d2] at v2 v4
              rw [decide_eq_false hne] at v1 v3
              clear d2 hne
              go_wp2
              go_round
              case rel => exact ⟨k + 1, by omega, by go_num, HS2⟩
              case measure => simp [intOf]; omega
          · have HF := Lib.hid (HN.out hn)
            rw [decide_eq_false c4] at v2 v4
            rw [decide_eq_false c3] at v1 v3
            clear HS HN hn c3 c4
            have hcs : s[k].toNat < 48 ∨ (57 < s[k].toNat ∧ s[k].toNat < 97) ∨ 122 < s[k].toNat := by omega
            clear c1 c2
            rcases hcs with d1 | ⟨d1, d2⟩ | d1
            · have e0 : (s[k].toNat : Int) < 97 := by omega
              have e1 : (s[k].toNat : Int) < 48 := by omega
              go_wp2
              go_ret
              exact ⟨by first | (rw [HF.out]; done) | (rw [HF.out]; rfl), rfl⟩
            · have e0 : (s[k].toNat : Int) < 97 := by omega
              have e1 : ¬ (s[k].toNat : Int) < 48 := by omega
              have e2 : (57 : Int) < (s[k].toNat : Int) := by omega
              go_wp2
              go_ret
              exact ⟨by first | (rw [HF.out]; done) | (rw [HF.out]; rfl), rfl⟩
            · have e0 : ¬ (s[k].toNat : Int) < 97 := by omega
              have e3 : (122 : Int) < (s[k].toNat : Int) := by omega
              have e1 : ¬ (s[k].toNat : Int) < 48 := by omega
              have e2 : (57 : Int) < (s[k].toNat : Int) := by omega
              go_wp2
              go_ret
              exact ⟨by first | (rw [HF.out]; done) | (rw [HF.out]; rfl), rfl⟩
        · obtain rfl : k = s.size := by omega
          have HF := Lib.hid (HY.out HB.out)
          go_wp2
          go_ret
          exact ⟨by first | (rw [HF.out]; done) | (rw [HF.out]; rfl), rfl⟩
    · have HF := Lib.hid (isNm_no2 (s := s) (by omega) h2)
      obtain ⟨hs1, hs2⟩ := h
      have z0 : 0 < s.size := by omega
      by_cases h3 : (s[0].toNat : Int) < 97
      · clear h2
        go_enter Tryd.func71, Tryd.ntmps71
        go_wp2
        go_ret
        exact ⟨by first | (rw [HF.out]; done) | (rw [HF.out]; rfl), rfl⟩
      · have h4 : (122 : Int) < (s[0].toNat : Int) := by omega
        clear h2
        go_enter Tryd.func71, Tryd.ntmps71
        go_wp2
        go_ret
        exact ⟨by first | (rw [HF.out]; done) | (rw [HF.out]; rfl), rfl⟩
  · have HF := Lib.hid (isNm_no1 h)
    by_cases h0 : s.size < 1
    · clear h
      have z1 : (s.size : Int) < 1 := by omega
      go_enter Tryd.func71, Tryd.ntmps71
      go_wp2
      go_ret
      exact ⟨by first | (rw [HF.out]; done) | (rw [HF.out]; rfl), rfl⟩
    · have h3 : 30 < s.size := by omega
      have z1 : ¬ (s.size : Int) < 1 := by omega
      have z2 : (30 : Int) < (s.size : Int) := by omega
      clear h
      go_enter Tryd.func71, Tryd.ntmps71
      go_wp2
      go_ret
      exact ⟨by first | (rw [HF.out]; done) | (rw [HF.out]; rfl), rfl⟩
theorem isuser_any (s : ByteArray) (w : World) :
    Calls Tryd.prog 49 #[.string s] w fun e w' => e = .returned (.bool (isUs s)) ∧ w = w' := by
  have HC := Lib.hid (isname_any s)
  by_cases h : s.size = 0
  · have HF : Hid (isUs s = true) := Lib.hid (by unfold isUs; rw [decide_eq_true h]; rfl)
    obtain rfl := ba_nil h
    clear HC h
    go_enter Tryd.func49, Tryd.ntmps49
    go_wp2
    go_ret
    exact ⟨by first | (rw [HF.out]; done) | (rw [HF.out]; rfl), rfl⟩
  · have HF : Hid (isUs s = isNm s) := Lib.hid (by unfold isUs; rw [decide_eq_false h]; rfl)
    obtain ⟨e3, e1, e2, e4⟩ := str_ne h
    clear h
    go_enter Tryd.func49, Tryd.ntmps49
    go_wp2_with fail
    go_at_call 67
    refine (HC.out _).mono ?_
    rintro e w' ⟨rfl, rfl⟩
    go_wp2_with fail
    go_ret
    exact ⟨by first | (rw [HF.out]; done) | (rw [HF.out]; rfl), rfl⟩
theorem risuser_any (s : ByteArray) (w : World) :
    Calls Tryd.prog 55 #[.string s] w fun e w' => e = .returned (.bool (isUs s)) ∧ w = w' := by
  have HC := Lib.hid (risname_any s)
  by_cases h : s.size = 0
  · have HF : Hid (isUs s = true) := Lib.hid (by unfold isUs; rw [decide_eq_true h]; rfl)
    obtain rfl := ba_nil h
    clear HC h
    go_enter Tryd.func55, Tryd.ntmps55
    go_wp2
    go_ret
    exact ⟨by first | (rw [HF.out]; done) | (rw [HF.out]; rfl), rfl⟩
  · have HF : Hid (isUs s = isNm s) := Lib.hid (by unfold isUs; rw [decide_eq_false h]; rfl)
    obtain ⟨e3, e1, e2, e4⟩ := str_ne h
    clear h
    go_enter Tryd.func55, Tryd.ntmps55
    go_wp2_with fail
    go_at_call 71
    refine (HC.out _).mono ?_
    rintro e w' ⟨rfl, rfl⟩
    go_wp2_with fail
    go_ret
    exact ⟨by first | (rw [HF.out]; done) | (rw [HF.out]; rfl), rfl⟩
end Go.Proofs.YtbeijpajodgpeaaDoor
