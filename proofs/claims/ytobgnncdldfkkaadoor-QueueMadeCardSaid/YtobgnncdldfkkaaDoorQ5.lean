/- The walk of trcref1.prefixed. -/
import Derived.Test.YtobgnncdldfkkaaDoorQ4
namespace Go.Proofs.YtobgnncdldfkkaaDoor
open Go.RowKit
set_option linter.unusedSimpArgs false
set_option linter.unusedVariables false

theorem bl_extract (s : ByteArray) (i : Nat) : bl (s.extract 0 i) = (bl s).take i := by
  show (s.extract 0 i).data.toList = _
  rw [Lib.extract_data, List.drop_zero, Nat.sub_zero]
theorem trim_yes {p : ByteArray} (h : 0 < p.size) (hc : p[p.size - 1] = 32) : Lib.trimSuffix (bl p) [32] = bl (p.extract 0 (p.size - 1)) := by
  have hl : (bl p).length = (p.size - 1) + 1 := by rw [bl_len]; omega
  have h2 := bl_take (s := p) (k := p.size - 1) (by omega)
  rw [hc, List.take_of_length_le (by omega)] at h2
  unfold Lib.trimSuffix Lib.hasSuffix
  rw [if_pos (List.isSuffixOf_iff_suffix.2 ⟨_, h2.symm⟩), bl_extract, bl_len]
  rfl
theorem trim_no {p : ByteArray} (h : ∀ h : 0 < p.size, p[p.size - 1] ≠ 32) : Lib.trimSuffix (bl p) [32] = bl p := by
  unfold Lib.trimSuffix Lib.hasSuffix
  rw [if_neg]
  intro hs
  obtain ⟨l, hl⟩ := List.isSuffixOf_iff_suffix.1 hs
  have hz : p.size = l.length + 1 := by rw [← bl_len, ← hl]; simp
  apply h (by omega)
  have e : p[p.size - 1]'(by omega) = (bl p).getD (p.size - 1) 0 := (getD_bl (by omega)).symm
  rw [e, ← hl]
  have e2 : p.size - 1 = l.length := by omega
  rw [e2]
  simp

set_option maxRecDepth 100000 in
set_option maxHeartbeats 4000000 in
theorem prefixed_any (s : ByteArray) (w : World) (hs : s.size ≤ 1000) :
    Calls Tryd.prog 49 #[.string s] w fun e w' => (∃ (a b : Int), e = .returned (.tuple #[.int .i64 a, .int .i64 b]) ∧ (a == 0) = !nmd (bl s)) ∧ Below w.heap.size w w' := by
  have HI : Hid (∀ W : World, Calls Tryd.prog 47 #[.string s, .string ⟨#[58]⟩, .int .i64 0] W fun e w' => e = .returned (.int .i64 (Lib.index (bl s) [58])) ∧ w' = W) := Lib.hid fun W => index_any s ⟨#[58]⟩ W hs (by decide) (by decide)
  by_cases hi : 0 ≤ Lib.index (bl s) [58]
  · obtain ⟨i, hi2⟩ : ∃ i : Nat, Lib.index (bl s) [58] = i := ⟨(Lib.index (bl s) [58]).toNat, by omega⟩
    have hroom := Lib.index_room (bl s) [58] hi
    rw [hi2] at HI hroom
    have hil : i < s.size := by rw [bl_len] at hroom; simp at hroom; omega
    have z0 : (0 : Int) ≤ (i : Int) := by omega
    have z1 : (i : Int) ≤ (s.size : Int) := by omega
    have hN : nmd (bl s) = isSp (Lib.trimSuffix (bl (s.extract 0 i)) [32]) := by
      unfold nmd
      rw [decide_eq_true hi, hi2, bl_extract]
      rfl
    have hpz : (s.extract 0 i).size = i := by rw [← bl_len, bl_extract, List.length_take, bl_len]; omega
    -- the loop over the names
    have HS := Lib.hid fun (k : Nat) (W : World) (h1 : 1 ≤ k) (h6 : k < 6) => spacename_any k W h1 h6
    have HL := Lib.hid fun (p : ByteArray) (k : Nat) (W : World) (hp : p.size ≤ 1000) => same_letters p (names.getD k ByteArray.empty) W hp (by
      have : ∀ j : Fin 6, (names.getD j.val ByteArray.empty).size ≤ 100 := by decide +kernel
      rcases Nat.lt_or_ge k 6 with h | h
      · have := this ⟨k, h⟩; simp only at this; omega
      · rw [show names.getD k ByteArray.empty = ByteArray.empty by simp [List.getD, List.getElem?_eq_none (show names.length ≤ k from h)]]; decide)
    generalize hP : s.extract 0 i = P at *
    by_cases hsp : ∃ h : 0 < P.size, P[P.size - 1] = 32
    · obtain ⟨h0, h1⟩ := hsp
      rw [trim_yes h0 h1] at hN
      have y1 : ((P[P.size - 1].toNat : Int) == 32) = true := by rw [h1]; rfl
      have y2 : (0 : Int) < (P.size : Int) := by omega
      have y3 : P.size ≤ 1000 := by omega
      have y4 : (P.size : Int) - 1 < (P.size : Int) := by omega
      have y5 : (0 : Int) ≤ (P.size : Int) - 1 := by omega
      have y6 : ((P.size : Int) - 1).toNat = P.size - 1 := by omega
      have y7 : P.size - 1 < P.size := by omega
      have y8 : (P.size : Int) - 1 ≤ (P.size : Int) := by omega
      have hq : (P.extract 0 (P.size - 1)).size ≤ 1000 := by rw [← bl_len, bl_extract, List.length_take, bl_len]; omega
      have HN := Lib.hid hN
      have HQ := Lib.hid hq
      clear hN hi hi2 hroom h1 hq hpz
      go_enter Tryd.func49, Tryd.ntmps49
      go_wp2_with (go_at_call 47; refine (HI.out _).mono ?_; rintro e w1 ⟨rfl, hwn⟩; obtain rfl := hwn.symm)
      generalize P.extract 0 (P.size - 1) = Q at *
      go_loopw [6] (fun v wr => ∃ k : Nat, 1 ≤ k ∧ k ≤ 6 ∧ v = .int .i64 k ∧ Below w.heap.size w wr ∧ Hid (∀ j, 1 ≤ j → j < k → (bl Q).map ch ≠ (bl (names.getD j ByteArray.empty)).map ch)) (fun v _ => 6 - (intOf v).toNat)
      case atStart => exact ⟨1, by omega, by omega, rfl, Below.refl _ _, Lib.hid fun j h1 h2 => by omega⟩
      case round =>
        obtain ⟨k, hk1, hk, rfl, hbw, HJ⟩ := hrel
        by_cases hlt : k < 6
        · have HS2 := Lib.hid fun W => HS.out k W hk1 hlt
          have HL2 := Lib.hid fun W => HL.out Q k W HQ.out
          have z2 : (k : Int) < 6 := by omega
          by_cases hq : (bl Q).map ch = (bl (names.getD k ByteArray.empty)).map ch
          · have HR : Hid (isSp (bl Q) = true) := Lib.hid (isSp_hit hk1 hlt hq)
            rw [decide_eq_true hq] at HL2
            clear hq
            generalize names.getD k ByteArray.empty = nk at *
            go_wp2_with (first
              | (go_at_call 52; refine (HS2.out _).mono ?_; rintro e w2 ⟨rfl, hb2⟩)
              | (go_at_call 51; refine (HL2.out _).mono ?_; rintro e w3 ⟨rfl, hb3⟩))
            refine bodyPost_ret (v := .tuple #[.int .i64 k, .int .i64 i]) ?_ rfl ⟨⟨_, _, rfl, by rw [HN.out, HR.out]; simp; omega⟩, below_call (below_call hbw hb2) hb3⟩
            simp [results, Tryd.results49, go_sem]
          · have HJ2 : Hid (∀ j, 1 ≤ j → j < k + 1 → (bl Q).map ch ≠ (bl (names.getD j ByteArray.empty)).map ch) := Lib.hid fun j h1 h2 => by
              rcases Nat.lt_or_ge j k with h3 | h3
              · exact HJ.out j h1 h3
              · obtain rfl : j = k := by omega
                exact hq
            rw [decide_eq_false hq] at HL2
            clear hq HJ
            have HJ3 := Lib.hid HJ2
            clear HJ2
            generalize hnk : names.getD k ByteArray.empty = nk at HS2 HL2
            clear hnk
            go_wp2_with (first
              | (go_at_call 52; refine (HS2.out _).mono ?_; rintro e w2 ⟨rfl, hb2⟩)
              | (go_at_call 51; refine (HL2.out _).mono ?_; rintro e w3 ⟨rfl, hb3⟩))
            go_roundw
            case rel => exact ⟨k + 1, by omega, by omega, by go_num, below_call (below_call hbw hb2) hb3, HJ3.out⟩
            case measure => simp [intOf]; omega
        · obtain rfl : k = 6 := by omega
          have HR : Hid (isSp (bl Q) = false) := Lib.hid (isSp_miss HJ.out)
          go_wp2_with fail
          refine bodyPost_ret (v := .tuple #[.int .i64 0, .int .i64 0]) ?_ rfl ⟨⟨_, _, rfl, by rw [HN.out, HR.out]; rfl⟩, hbw⟩
          simp [results, Tryd.results49, go_sem]
    · obtain ⟨Q, hPQ⟩ : ∃ Q, Q = P := ⟨_, rfl⟩
      rw [trim_no (fun h e => hsp ⟨h, e⟩)] at hN
      have hq : P.size ≤ 1000 := by omega
      rw [← hPQ] at hN hq
      have HN := Lib.hid hN
      have HQ := Lib.hid hq
      clear hN hi hi2 hroom hq
      by_cases h0 : 0 < P.size
      · have h1 : P[P.size - 1] ≠ 32 := fun e => hsp ⟨h0, e⟩
        have y1 : ((P[P.size - 1].toNat : Int) == 32) = false := (@u8_eq _ 32).trans (decide_eq_false h1)
        have y2 : (0 : Int) < (P.size : Int) := by omega
        have y3 : P.size ≤ 1000 := by omega
        have y4 : (P.size : Int) - 1 < (P.size : Int) := by omega
        have y5 : (0 : Int) ≤ (P.size : Int) - 1 := by omega
        have y6 : ((P.size : Int) - 1).toNat = P.size - 1 := by omega
        have y7 : P.size - 1 < P.size := by omega
        clear h1 hsp hpz
        go_enter Tryd.func49, Tryd.ntmps49
        go_wp2_with (go_at_call 47; refine (HI.out _).mono ?_; rintro e w1 ⟨rfl, hwn⟩; obtain rfl := hwn.symm)
        subst hPQ
        go_loopw [6] (fun v wr => ∃ k : Nat, 1 ≤ k ∧ k ≤ 6 ∧ v = .int .i64 k ∧ Below w.heap.size w wr ∧ Hid (∀ j, 1 ≤ j → j < k → (bl Q).map ch ≠ (bl (names.getD j ByteArray.empty)).map ch)) (fun v _ => 6 - (intOf v).toNat)
        case atStart => exact ⟨1, by omega, by omega, rfl, Below.refl _ _, Lib.hid fun j h1 h2 => by omega⟩
        case round =>
          obtain ⟨k, hk1, hk, rfl, hbw, HJ⟩ := hrel
          by_cases hlt : k < 6
          · have HS2 := Lib.hid fun W => HS.out k W hk1 hlt
            have HL2 := Lib.hid fun W => HL.out Q k W HQ.out
            have z2 : (k : Int) < 6 := by omega
            by_cases hq : (bl Q).map ch = (bl (names.getD k ByteArray.empty)).map ch
            · have HR : Hid (isSp (bl Q) = true) := Lib.hid (isSp_hit hk1 hlt hq)
              rw [decide_eq_true hq] at HL2
              clear hq
              generalize names.getD k ByteArray.empty = nk at *
              go_wp2_with (first
                | (go_at_call 52; refine (HS2.out _).mono ?_; rintro e w2 ⟨rfl, hb2⟩)
                | (go_at_call 51; refine (HL2.out _).mono ?_; rintro e w3 ⟨rfl, hb3⟩))
              refine bodyPost_ret (v := .tuple #[.int .i64 k, .int .i64 i]) ?_ rfl ⟨⟨_, _, rfl, by rw [HN.out, HR.out]; simp; omega⟩, below_call (below_call hbw hb2) hb3⟩
              simp [results, Tryd.results49, go_sem]
            · have HJ2 : Hid (∀ j, 1 ≤ j → j < k + 1 → (bl Q).map ch ≠ (bl (names.getD j ByteArray.empty)).map ch) := Lib.hid fun j h1 h2 => by
                rcases Nat.lt_or_ge j k with h3 | h3
                · exact HJ.out j h1 h3
                · obtain rfl : j = k := by omega
                  exact hq
              rw [decide_eq_false hq] at HL2
              clear hq HJ
              have HJ3 := Lib.hid HJ2
              clear HJ2
              generalize hnk : names.getD k ByteArray.empty = nk at HS2 HL2
              clear hnk
              go_wp2_with (first
                | (go_at_call 52; refine (HS2.out _).mono ?_; rintro e w2 ⟨rfl, hb2⟩)
                | (go_at_call 51; refine (HL2.out _).mono ?_; rintro e w3 ⟨rfl, hb3⟩))
              go_roundw
              case rel => exact ⟨k + 1, by omega, by omega, by go_num, below_call (below_call hbw hb2) hb3, HJ3.out⟩
              case measure => simp [intOf]; omega
          · obtain rfl : k = 6 := by omega
            have HR : Hid (isSp (bl Q) = false) := Lib.hid (isSp_miss HJ.out)
            go_wp2_with fail
            refine bodyPost_ret (v := .tuple #[.int .i64 0, .int .i64 0]) ?_ rfl ⟨⟨_, _, rfl, by rw [HN.out, HR.out]; rfl⟩, hbw⟩
            simp [results, Tryd.results49, go_sem]
      · have y2 : ¬ (0 : Int) < (P.size : Int) := by omega
        clear hsp hpz
        go_enter Tryd.func49, Tryd.ntmps49
        go_wp2_with (go_at_call 47; refine (HI.out _).mono ?_; rintro e w1 ⟨rfl, hwn⟩; obtain rfl := hwn.symm)
        subst hPQ
        go_loopw [6] (fun v wr => ∃ k : Nat, 1 ≤ k ∧ k ≤ 6 ∧ v = .int .i64 k ∧ Below w.heap.size w wr ∧ Hid (∀ j, 1 ≤ j → j < k → (bl Q).map ch ≠ (bl (names.getD j ByteArray.empty)).map ch)) (fun v _ => 6 - (intOf v).toNat)
        case atStart => exact ⟨1, by omega, by omega, rfl, Below.refl _ _, Lib.hid fun j h1 h2 => by omega⟩
        case round =>
          obtain ⟨k, hk1, hk, rfl, hbw, HJ⟩ := hrel
          by_cases hlt : k < 6
          · have HS2 := Lib.hid fun W => HS.out k W hk1 hlt
            have HL2 := Lib.hid fun W => HL.out Q k W HQ.out
            have z2 : (k : Int) < 6 := by omega
            by_cases hq : (bl Q).map ch = (bl (names.getD k ByteArray.empty)).map ch
            · have HR : Hid (isSp (bl Q) = true) := Lib.hid (isSp_hit hk1 hlt hq)
              rw [decide_eq_true hq] at HL2
              clear hq
              generalize names.getD k ByteArray.empty = nk at *
              go_wp2_with (first
                | (go_at_call 52; refine (HS2.out _).mono ?_; rintro e w2 ⟨rfl, hb2⟩)
                | (go_at_call 51; refine (HL2.out _).mono ?_; rintro e w3 ⟨rfl, hb3⟩))
              refine bodyPost_ret (v := .tuple #[.int .i64 k, .int .i64 i]) ?_ rfl ⟨⟨_, _, rfl, by rw [HN.out, HR.out]; simp; omega⟩, below_call (below_call hbw hb2) hb3⟩
              simp [results, Tryd.results49, go_sem]
            · have HJ2 : Hid (∀ j, 1 ≤ j → j < k + 1 → (bl Q).map ch ≠ (bl (names.getD j ByteArray.empty)).map ch) := Lib.hid fun j h1 h2 => by
                rcases Nat.lt_or_ge j k with h3 | h3
                · exact HJ.out j h1 h3
                · obtain rfl : j = k := by omega
                  exact hq
              rw [decide_eq_false hq] at HL2
              clear hq HJ
              have HJ3 := Lib.hid HJ2
              clear HJ2
              generalize hnk : names.getD k ByteArray.empty = nk at HS2 HL2
              clear hnk
              go_wp2_with (first
                | (go_at_call 52; refine (HS2.out _).mono ?_; rintro e w2 ⟨rfl, hb2⟩)
                | (go_at_call 51; refine (HL2.out _).mono ?_; rintro e w3 ⟨rfl, hb3⟩))
              go_roundw
              case rel => exact ⟨k + 1, by omega, by omega, by go_num, below_call (below_call hbw hb2) hb3, HJ3.out⟩
              case measure => simp [intOf]; omega
          · obtain rfl : k = 6 := by omega
            have HR : Hid (isSp (bl Q) = false) := Lib.hid (isSp_miss HJ.out)
            go_wp2_with fail
            refine bodyPost_ret (v := .tuple #[.int .i64 0, .int .i64 0]) ?_ rfl ⟨⟨_, _, rfl, by rw [HN.out, HR.out]; rfl⟩, hbw⟩
            simp [results, Tryd.results49, go_sem]
  · have HN : Hid (nmd (bl s) = false) := Lib.hid (by unfold nmd; rw [decide_eq_false hi]; rfl)
    generalize Lib.index (bl s) [58] = i at *
    go_enter Tryd.func49, Tryd.ntmps49
    go_wp2_with (go_at_call 47; refine (HI.out _).mono ?_; rintro e w1 ⟨rfl, hwn⟩; obtain rfl := hwn.symm)
    refine bodyPost_ret (v := .tuple #[.int .i64 0, .int .i64 0]) ?_ rfl ⟨⟨_, _, rfl, by rw [HN.out]; rfl⟩, Below.refl _ _⟩
    simp [results, Tryd.results49, go_sem]
end Go.Proofs.YtobgnncdldfkkaaDoor
