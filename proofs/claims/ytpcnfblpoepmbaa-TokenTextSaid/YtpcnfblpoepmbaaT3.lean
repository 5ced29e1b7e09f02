/- The walks of the reference: At, Index, run, TagText, special. -/
import Derived.Test.YtpcnfblpoepmbaaT2
import Derived.Test.YtpcnfblpoepmbaaTP4
namespace Go.Proofs.Ytpcnfblpoepmbaa
open Go.RowKit
set_option linter.unusedSimpArgs false
set_option linter.unusedVariables false

theorem piece_pr {s t : ByteArray} {i : Nat} (h : i + t.size ≤ s.size) : ((s.extract i (i + t.size)).toList == t.toList) = pr (bl t) ((bl s).drop i) := (Lib.occ_of_piece s t i h).symm
theorem short_pr {s t : ByteArray} {i : Nat} (hi : i ≤ s.size) (h : ¬ i + t.size ≤ s.size) : pr (bl t) ((bl s).drop i) = false := by
  rw [Bool.eq_false_iff]
  intro h1
  have := pr_len h1
  rw [List.length_drop, bl_len, bl_len] at this
  omega

set_option maxHeartbeats 1600000 in
theorem at_any (s t : ByteArray) (i : Nat) (w : World) (hi : i ≤ s.size) (hs : s.size ≤ 8796093022207) (ht : t.size ≤ 8796093022207) :
    Calls Try.prog 31 #[.string s, .int .i64 i, .string t] w fun e w' => e = .returned (.bool (pr (bl t) ((bl s).drop i))) ∧ w' = w := by
  have hw1 : IntKind.i64.wrap ((s.size : Int) - (i : Int)) = (s.size : Int) - (i : Int) := by rw [IntKind.wrap_i64]; omega
  have hw2 : IntKind.i64.wrap ((i : Int) + (t.size : Int)) = ((i + t.size : Nat) : Int) := by rw [IntKind.wrap_i64]; omega
  have g0 : (0 : Int) ≤ (i : Int) := by omega
  have g0' : (i : Int) ≤ (s.size : Int) := by omega
  by_cases h : i + t.size ≤ s.size
  · have HR := Lib.hid (piece_pr (s := s) (t := t) h)
    have g1 : (t.size : Int) ≤ (s.size : Int) - (i : Int) := by omega
    have g3 : (i : Int) ≤ ((i + t.size : Nat) : Int) := by omega
    have g4 : ((i + t.size : Nat) : Int) ≤ (s.size : Int) := by omega
    obtain ⟨z, hz⟩ : ∃ z, z = i + t.size := ⟨_, rfl⟩
    rw [← hz] at hw2 g3 g4 HR
    generalize pr (bl t) ((bl s).drop i) = b at *
    clear hz h
    go_enter Try.func31, Try.ntmps31
    go_wp2
    go_ret
    exact ⟨by rw [← HR.out]; rfl, rfl⟩
  · have g1 : ¬ ((t.size : Int) ≤ (s.size : Int) - (i : Int)) := by omega
    rw [short_pr hi h]
    clear h
    go_enter Try.func31, Try.ntmps31
    go_wp2
    go_ret
    exact ⟨rfl, rfl⟩

/-- where t stands first in s, from a byte on -/
def IX (s t : List UInt8) (from_ : Nat) : Int := if Lib.index (s.drop from_) t < 0 then -1 else (from_ : Int) + Lib.index (s.drop from_) t
theorem IX_no {s t : List UInt8} {f : Nat} (hf : f ≤ s.length) (h : ∀ j, f ≤ j → j ≤ s.length → pr t (s.drop j) = false) : IX s t f = -1 := by
  unfold IX
  rcases Lib.index_spec (s.drop f) t with ⟨h1, _⟩ | ⟨i, h1, h2, h3, _⟩
  · rw [h1, if_pos (by omega)]
  · rw [List.length_drop] at h2
    have := h (f + i) (by omega) (by omega)
    unfold Lib.occAt at h3
    rw [List.drop_drop] at h3
    rw [show pr t (s.drop (f + i)) = true from h3] at this
    cases this
theorem IX_yes {s t : List UInt8} {f j : Nat} (hf : f ≤ j) (hj : j ≤ s.length) (h : ∀ k, f ≤ k → k < j → pr t (s.drop k) = false) (hp : pr t (s.drop j) = true) : IX s t f = (j : Int) := by
  have : Lib.index (s.drop f) t = ((j - f : Nat) : Int) := by
    refine ix_uniq ?_ (fun k hk => ?_) (by rw [List.length_drop]; omega)
    · unfold Lib.occAt
      rw [List.drop_drop, show f + (j - f) = j by omega]
      exact hp
    · unfold Lib.occAt
      rw [List.drop_drop]
      exact h (f + k) (by omega) (by omega)
  unfold IX
  rw [this, if_neg (by omega)]
  omega

set_option maxHeartbeats 1600000 in
theorem ix_any (s t : ByteArray) (f : Nat) (w : World) (hf : f ≤ s.size) (hs : s.size ≤ 8796093022207) (ht : t.size ≤ 8796093022207) :
    Calls Try.prog 13 #[.string s, .string t, .int .i64 f] w fun e w' => e = .returned (.int .i64 (IX (bl s) (bl t) f)) ∧ w' = w := by
  have HN := Lib.hid (fun h => IX_no (s := bl s) (t := bl t) (f := f) (by rw [bl_len]; exact hf) h)
  have HY := Lib.hid (fun (j : Nat) h1 h2 h3 h4 => IX_yes (s := bl s) (t := bl t) (f := f) (j := j) h1 h2 h3 h4)
  generalize IX (bl s) (bl t) f = R at *
  go_enter Try.func13, Try.ntmps13
  go_wp2
  go_loop [7] (fun v => ∃ j : Nat, v = .int .i64 j ∧ f ≤ j ∧ j ≤ s.size + 1 ∧ Hid (∀ k, f ≤ k → k < j → pr (bl t) ((bl s).drop k) = false)) (fun v => s.size + 1 - (intOf v).toNat)
  case atStart => exact ⟨f, rfl, Nat.le_refl _, by omega, Lib.hid fun k h1 h2 => by omega⟩
  case round =>
    obtain ⟨j, rfl, h1, h2, HK⟩ := hrel
    have hw2 : IntKind.i64.wrap ((j : Int) + (t.size : Int)) = ((j + t.size : Nat) : Int) := by rw [IntKind.wrap_i64]; omega
    have hw4 : (j : Int) + (t.size : Int) = ((j + t.size : Nat) : Int) := by omega
    have g0 : (0 : Int) ≤ (j : Int) := by omega
    by_cases hlt : j + t.size ≤ s.size
    · have HP := piece_pr (s := s) (t := t) hlt
      have g1 : ((j + t.size : Nat) : Int) ≤ (s.size : Int) := by omega
      have g3 : (j : Int) ≤ ((j + t.size : Nat) : Int) := by omega
      have hj1 : j < s.size + 1 := by omega
      obtain ⟨z, hz⟩ : ∃ z, z = j + t.size := ⟨_, rfl⟩
      rw [← hz] at hw2 hw4 g1 g3 HP
      by_cases hp : pr (bl t) ((bl s).drop j) = true
      · have HV : Hid (R = (j : Int)) := Lib.hid (HY.out j h1 (by rw [bl_len]; omega) HK.out hp)
        rw [hp] at HP
        clear hp hz hlt HN HY
        go_wp2
        go_ret
        exact ⟨by rw [HV.out]; rfl, rfl⟩
      · have hp' : pr (bl t) ((bl s).drop j) = false := by simpa using hp
        have HK2 : Hid (∀ k, f ≤ k → k < j + 1 → pr (bl t) ((bl s).drop k) = false) := Lib.hid fun k h3 h4 => by
          rcases Nat.lt_or_ge k j with h5 | h5
          · exact HK.out k h3 h5
          · obtain rfl : k = j := by omega
            exact hp'
        rw [hp'] at HP
        clear hp hp' hz hlt HN HY HK
        go_wp2
        go_round
        case rel => exact ⟨j + 1, by go_num, by omega, by omega, HK2⟩
        case measure => simp [intOf]; omega
    · have g1 : ¬ ((j + t.size : Nat) : Int) ≤ (s.size : Int) := by omega
      have HV : Hid (R = -1) := Lib.hid (HN.out fun k h3 h4 => by
        rw [bl_len] at h4
        rcases Nat.lt_or_ge k j with h5 | h5
        · exact HK.out k h3 h5
        · exact short_pr h4 (by omega))
      obtain ⟨z, hz⟩ : ∃ z, z = j + t.size := ⟨_, rfl⟩
      rw [← hz] at hw2 hw4 g1
      clear hz hlt HN HY HK
      go_wp2
      go_ret
      exact ⟨by rw [HV.out]; rfl, rfl⟩

theorem rrun_any (s : ByteArray) (i : Nat) (c : UInt8) (C : Int) (w : World) (hC : C = (c.toNat : Int)) (hi : i ≤ s.size) (hs : s.size ≤ 8796093022207) :
    Calls Try.prog 32 #[.string s, .int .i64 i, .int .u8 C] w fun e w' => e = .returned (.int .i64 ((i + runL c ((bl s).drop i) : Nat) : Int)) ∧ w' = w := by
  have HC := Lib.hid hC
  clear hC
  obtain ⟨R, hR⟩ : ∃ R, R = i + runL c ((bl s).drop i) := ⟨_, rfl⟩
  have HR := Lib.hid hR
  rw [← hR]
  clear hR
  go_enter Try.func32, Try.ntmps32
  go_wp2
  go_loop [1] (fun v => ∃ k : Nat, i ≤ k ∧ k ≤ s.size ∧ v = .int .i64 k ∧ Hid (k + runL c ((bl s).drop k) = R)) (fun v => s.size - (intOf v).toNat)
  case atStart => exact ⟨i, Nat.le_refl _, hi, rfl, Lib.hid HR.out.symm⟩
  case round =>
    obtain ⟨k, hik, hk, rfl, HK⟩ := hrel
    by_cases hlt : k < s.size
    · have e1 := bl_drop hlt
      by_cases hc : s[k] = c
      · have hq : ((s[k].toNat : Int) == C) = true := by rw [HC.out, u8_eq, hc]; simp
        have hq2 : (s[k].toNat : Int) = C := by rw [HC.out, hc]
        have HK2 : Hid (k + 1 + runL c ((bl s).drop (k + 1)) = R) := by
          have h := HK.out
          rw [e1, runL, if_pos hc] at h
          exact Lib.hid (by omega)
        clear HK e1 hc
        go_wp2
        go_round
        case rel => exact ⟨k + 1, by omega, by omega, by go_num, HK2⟩
        case measure => simp [intOf]; omega
      · have hq : ((s[k].toNat : Int) == C) = false := by rw [HC.out, u8_eq]; simpa using hc
        have HK2 : Hid (k = R) := by
          have h := HK.out
          rw [e1, runL, if_neg hc] at h
          exact Lib.hid (by omega)
        clear HK e1 hc
        go_wp2
        go_ret
        exact ⟨by rw [← HK2.out]; rfl, rfl⟩
    · obtain rfl : k = s.size := by omega
      have HK2 : Hid (s.size = R) := by
        have h := HK.out
        rw [bl_end] at h
        exact Lib.hid h
      go_wp2
      go_ret
      exact ⟨by rw [← HK2.out]; rfl, rfl⟩
end Go.Proofs.Ytpcnfblpoepmbaa
