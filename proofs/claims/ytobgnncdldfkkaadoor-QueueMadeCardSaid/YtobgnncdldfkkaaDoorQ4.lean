/- The walks of trcref1: lower, sameLetters, SpaceName, Index, prefixed. -/
import Derived.Test.YtobgnncdldfkkaaDoorQ3
import Derived.Deep.QuietTactic
import Derived.BigQuiet
namespace Go.Proofs.YtobgnncdldfkkaaDoor
open Go.RowKit
set_option linter.unusedSimpArgs false
set_option linter.unusedVariables false

theorem lower_any (c : UInt8) (w : World) : Calls Tryd.prog 56 #[.int .u8 (c.toNat : Int)] w fun e w' => e = .returned (.int .u8 ((ch c).toNat : Int)) ∧ w' = w := by
  have hcn := ch_toNat c
  have hci := UInt8.toNat_lt c
  generalize ch c = d at *
  by_cases h1 : 65 ≤ c.toNat
  · have q1 : (65 : Int) ≤ (c.toNat : Int) := by omega
    by_cases h2 : c.toNat ≤ 90
    · have q2 : (c.toNat : Int) ≤ 90 := by omega
      have q3 : IntKind.u8.wrap ((c.toNat : Int) + 32) = (d.toNat : Int) := by rw [IntKind.wrap_u8', hcn]; simp [h1, h2]; omega
      have q4 : (c.toNat : Int) + 32 = (d.toNat : Int) := by rw [hcn]; simp [h1, h2]
      clear hcn
      go_enter Tryd.func56, Tryd.ntmps56
      go_wp2
      go_ret
      exact ⟨by rfl, rfl⟩
    · have q2 : ¬ (c.toNat : Int) ≤ 90 := by omega
      have q4 : (d.toNat : Int) = (c.toNat : Int) := by rw [hcn]; simp [h1, h2]
      rw [q4]
      clear hcn q4
      go_enter Tryd.func56, Tryd.ntmps56
      go_wp2
      go_ret
      exact ⟨by rfl, rfl⟩
  · have q1 : ¬ (65 : Int) ≤ (c.toNat : Int) := by omega
    have q4 : (d.toNat : Int) = (c.toNat : Int) := by rw [hcn]; simp [h1]
    rw [q4]
    clear hcn q4
    go_enter Tryd.func56, Tryd.ntmps56
    go_wp2
    go_ret
    exact ⟨by rfl, rfl⟩

theorem spacename_any (k : Nat) (w : World) (h1 : 1 ≤ k) (h6 : k < 6) : Calls Tryd.prog 52 #[.int .i64 k] w fun e w' => e = .returned (.string (names.getD k ByteArray.empty)) ∧ Below w.heap.size w w' := by
  obtain rfl | rfl | rfl | rfl | rfl : k = 1 ∨ k = 2 ∨ k = 3 ∨ k = 4 ∨ k = 5 := by omega
  all_goals
    go_enter Tryd.func52, Tryd.ntmps52
    go_wp2
    go_ret
    exact ⟨by rfl, by (refine bel_out ?_; (focus (repeat' first | (with_reducible refine bel_refl ?_) | with_reducible assumption | with_reducible refine bel_drew ?_ | with_reducible refine bel_drewN _ ?_ | with_reducible refine bel_alloc _ ?_ | with_reducible refine bel_set ?_ _ ?_ | (with_reducible apply bel_call; with_reducible assumption) | (with_reducible apply bel_owg; with_reducible assumption; (focus omega)) | with_reducible exact Nat.le_refl _ | omega | (simp; done) | (simp; omega))))⟩

theorem lows_next {a b : List UInt8} {k : Nat} (ha : k < a.length) (hb : k < b.length) (h : (a.take k).map ch = (b.take k).map ch) (hc : ch (a.getD k 0) = ch (b.getD k 0)) : (a.take (k + 1)).map ch = (b.take (k + 1)).map ch := by
  rw [List.take_add_one, List.take_add_one, List.map_append, List.map_append, h, List.getElem?_eq_getElem ha, List.getElem?_eq_getElem hb]
  simp only [List.getD, List.getElem?_eq_getElem ha, List.getElem?_eq_getElem hb, Option.getD_some] at hc
  simp [hc]
theorem lows_ne {a b : List UInt8} {k : Nat} (ha : k < a.length) (hb : k < b.length) (hc : ch (a.getD k 0) ≠ ch (b.getD k 0)) : a.map ch ≠ b.map ch := by
  intro h
  apply hc
  have h2 := congrArg (fun l : List UInt8 => l[k]?) h
  simp only [List.getElem?_map, List.getElem?_eq_getElem ha, List.getElem?_eq_getElem hb, Option.map_some, Option.some.injEq] at h2
  simpa [List.getD, List.getElem?_eq_getElem ha, List.getElem?_eq_getElem hb] using h2
theorem getD_bl {s : ByteArray} {k : Nat} (h : k < s.size) : (bl s).getD k 0 = s[k] := by
  have h2 : k < (bl s).length := by rw [bl_len]; exact h
  simp [List.getD, List.getElem?_eq_getElem h2]
  exact bl_get h

set_option maxRecDepth 100000 in
set_option maxHeartbeats 4000000 in
theorem same_letters (a b : ByteArray) (w : World) (ha : a.size ≤ 1000) (hb : b.size ≤ 1000) :
    Calls Tryd.prog 51 #[.string a, .string b] w fun e w' => e = .returned (.bool (decide ((bl a).map ch = (bl b).map ch))) ∧ Below w.heap.size w w' := by
  by_cases hz : a.size = b.size
  · have HL := Lib.hid fun (c : UInt8) (W : World) => lower_any c W
    go_enter Tryd.func51, Tryd.ntmps51
    go_wp2
    go_loopw [5] (fun v wr => ∃ k : Nat, k ≤ a.size ∧ v = .int .i64 k ∧ Below w.heap.size w wr ∧ Hid (((bl a).take k).map ch = ((bl b).take k).map ch)) (fun v _ => a.size - (intOf v).toNat)
    case atStart => exact ⟨0, Nat.zero_le _, rfl, Below.refl _ _, Lib.hid rfl⟩
    case round =>
      obtain ⟨k, hk, rfl, hbw, HB⟩ := hrel
      by_cases hlt : k < a.size
      · have hlt2 : k < b.size := by omega
        have z0 : (0 : Int) ≤ (k : Int) := by omega
        have z1 : (k : Int) < (a.size : Int) := by omega
        have z2 : (k : Int) < (b.size : Int) := by omega
        have HX : Hid (ch a[k] = ch b[k] → ((bl a).take (k + 1)).map ch = ((bl b).take (k + 1)).map ch) := Lib.hid fun h => lows_next (by rw [bl_len]; exact hlt) (by rw [bl_len]; exact hlt2) HB.out (by rw [getD_bl hlt, getD_bl hlt2]; exact h)
        have HY : Hid (ch a[k] ≠ ch b[k] → ¬ (bl a).map ch = (bl b).map ch) := Lib.hid fun h => lows_ne (k := k) (by rw [bl_len]; exact hlt) (by rw [bl_len]; exact hlt2) (by rw [getD_bl hlt, getD_bl hlt2]; exact h)
        by_cases hc : ch a[k] = ch b[k]
        · have hq : (((ch a[k]).toNat : Int) != ((ch b[k]).toNat : Int)) = false := by rw [hc]; simp
          have hq2 : (((ch a[k]).toNat : Int) == ((ch b[k]).toNat : Int)) = true := by rw [hc]; simp
          have HN := Lib.hid (HX.out hc)
          clear HX HY hc HB
          go_wp2_with fail
          go_quiet ((go_at_call 56; exact Calls.quiet_of_same (HL.out _ _)))
          go_wp2
          go_roundw
          case rel => exact ⟨k + 1, by omega, by go_num, below_drewN hbw _, HN⟩
          case measure => simp [intOf]; omega
        · have hq2 : (((ch a[k]).toNat : Int) == ((ch b[k]).toNat : Int)) = false := u8_eq.trans (decide_eq_false hc)
          have hq : (((ch a[k]).toNat : Int) != ((ch b[k]).toNat : Int)) = true := by rw [bne, hq2]; rfl
          have HN := Lib.hid (decide_eq_false (HY.out hc))
          clear HX HY hc HB
          go_wp2_with fail
          go_quiet ((go_at_call 56; exact Calls.quiet_of_same (HL.out _ _)))
          go_wp2
          go_ret
          exact ⟨by rw [HN.out]; rfl, below_drewN hbw _⟩
      · obtain rfl : k = a.size := by omega
        have HN : Hid (decide ((bl a).map ch = (bl b).map ch) = true) := Lib.hid (decide_eq_true (by
          have := HB.out
          rw [List.take_of_length_le (by rw [bl_len]; exact Nat.le_refl _), List.take_of_length_le (by rw [bl_len]; omega)] at this
          exact this))
        go_wp2
        go_ret
        exact ⟨by rw [HN.out]; rfl, hbw⟩
  · have HN : Hid (decide ((bl a).map ch = (bl b).map ch) = false) := Lib.hid (decide_eq_false fun h => hz (by
      have := congrArg List.length h
      simpa using this))
    have hq : ((a.size : Int) == (b.size : Int)) = false := by simp; omega
    have hq2 : ((a.size : Int) != (b.size : Int)) = true := by simp; omega
    go_enter Tryd.func51, Tryd.ntmps51
    go_wp2
    go_ret
    exact ⟨by rw [HN.out]; rfl, Below.refl _ _⟩

set_option maxRecDepth 100000 in
set_option maxHeartbeats 4000000 in
theorem index_any (s t : ByteArray) (w : World) (hs : s.size ≤ 1000) (ht0 : 0 < t.size) (ht : t.size ≤ 1000) :
    Calls Tryd.prog 47 #[.string s, .string t, .int .i64 0] w fun e w' => e = .returned (.int .i64 (Lib.index (bl s) (bl t))) ∧ w' = w := by
  go_enter Tryd.func47, Tryd.ntmps47
  go_wp2
  go_loopw [7] (fun v wr => ∃ k : Nat, k ≤ s.size ∧ v = .int .i64 k ∧ wr = w ∧ Hid (∀ j, j < k → Lib.occAt (bl s) (bl t) j = false)) (fun v _ => s.size + 1 - (intOf v).toNat)
  case atStart => exact ⟨0, Nat.zero_le _, rfl, rfl, Lib.hid fun j h => by omega⟩
  case round =>
    obtain ⟨k, hk, rfl, hwr, HB⟩ := hrel
    obtain rfl := hwr.symm
    by_cases hlt : k + t.size ≤ s.size
    · have z0 : (0 : Int) ≤ (k : Int) := by omega
      have z1 : (k : Int) + (t.size : Int) ≤ (s.size : Int) := by omega
      have z2 : (k : Int) ≤ (k : Int) + (t.size : Int) := by omega
      have hx : Lib.occAt (bl s) (bl t) k = ((s.extract k (k + t.size)).toList == t.toList) := by
        rw [Lib.occAt_iff_take _ _ _ (by rw [bl_len, bl_len]; exact hlt), bl_len, Lib.extract_toList, Lib.toList_data, Nat.add_sub_cancel_left]
      by_cases hc : ((s.extract k (k + t.size)).toList == t.toList) = true
      · have HR : Hid (Lib.index (bl s) (bl t) = k) := Lib.hid (Lib.index_first (by rw [bl_len]; exact hk) (by rw [hx]; exact hc) HB.out)
        clear hx HB
        go_wp2
        go_ret
        exact ⟨by rw [HR.out]; rfl, rfl⟩
      · have hc2 : ((s.extract k (k + t.size)).toList == t.toList) = false := by simpa using hc
        have HN : Hid (∀ j, j < k + 1 → Lib.occAt (bl s) (bl t) j = false) := Lib.hid fun j hj => by
          rcases Nat.lt_or_ge j k with h1 | h1
          · exact HB.out j h1
          · obtain rfl : j = k := by omega
            rw [hx, hc2]
        clear hx HB hc
        go_wp2
        go_roundw
        case rel => exact ⟨k + 1, by omega, by go_num, (by first | rfl | trivial), HN⟩
        case measure => simp [intOf]; omega
    · have z1 : ¬ (k : Int) + (t.size : Int) ≤ (s.size : Int) := by omega
      have HR : Hid (Lib.index (bl s) (bl t) = -1) := Lib.hid (Lib.index_none fun j hj => by
        rcases Nat.lt_or_ge j k with h1 | h1
        · exact HB.out j h1
        · cases e : Lib.occAt (bl s) (bl t) j with
          | false => rfl
          | true =>
            rcases Lib.occAt_room e with h2 | h2
            · rw [bl_len, bl_len] at h2; omega
            · have := congrArg List.length h2
              rw [bl_len] at this
              have h0 : t.size = 0 := this
              omega)
      clear HB
      go_wp2
      go_ret
      exact ⟨by rw [HR.out]; rfl, rfl⟩
end Go.Proofs.YtobgnncdldfkkaaDoor
