/- The walks of First, of both Trims and of StringsCase. -/
import Derived.Test.YtiggholdcebjjaaDoorC2
import Derived.Test.YtiggholdcebjjaaDoorCT
import Derived.Test.YtiggholdcebjjaaDoorShelf
import Derived.Lib.IndexBytes
namespace Go.Proofs.YtiggholdcebjjaaDoor
open Go.RowKit
set_option linter.unusedSimpArgs false
set_option linter.unusedVariables false

theorem first_cat (up : Bool) (s : ByteArray) : (⟨((bl (s.extract 0 1)).map (ch up)).toArray⟩ : ByteArray) ++ s.extract 1 s.size = ⟨(cs up 1 (bl s)).toArray⟩ := by
  apply ByteArray.ext
  apply Array.toList_inj.1
  have e1 : (s.extract 0 1).data.toList = (bl s).take 1 := by
    have := Lib.extract_data s 0 1
    exact this
  have e2 : (s.extract 1 s.size).data.toList = (bl s).drop 1 := Lib.extract_to_end s 1
  show _ = cs up 1 (bl s)
  unfold cs
  have e3 : ((⟨((bl (s.extract 0 1)).map (ch up)).toArray⟩ : ByteArray) ++ s.extract 1 s.size).data.toList = (bl (s.extract 0 1)).map (ch up) ++ (s.extract 1 s.size).data.toList := by simp
  rw [e3, e2]
  show ((s.extract 0 1).data.toList).map (ch up) ++ _ = _
  rw [e1]

set_option maxHeartbeats 1600000 in
theorem first_any (up : Bool) (s : ByteArray) (w : World) (hs : s.size ≤ 8796093022207) :
    Calls Tryd.prog 10 #[.string s, .bool up] w fun e w' => e = .returned (.string ⟨(cs up 1 (bl s)).toArray⟩) ∧ Below w.heap.size w w' := by
  by_cases h0 : s.size = 0
  · obtain rfl : s = ByteArray.empty := by rcases s with ⟨⟨l⟩⟩; simp [ByteArray.size] at h0; subst h0; rfl
    have e1 : (⟨(cs up 1 (bl ByteArray.empty)).toArray⟩ : ByteArray) = ⟨#[]⟩ := rfl
    rw [e1]
    go_enter Tryd.func10, Tryd.ntmps10
    go_wp2
    go_ret
    exact ⟨rfl, Below.refl _ _⟩
  · have he : s.toList.isEmpty = false := by
      rw [Bool.eq_false_iff]
      intro h1
      rw [List.isEmpty_iff, ByteArray.toList_eq] at h1
      exact h0 (by have : s.data.toList.length = 0 := by rw [h1]; rfl
                   simpa using this)
    have g1 : (1 : Int) ≤ (s.size : Int) := by omega
    have HL : Hid (∀ W, Calls Tryd.prog 6 #[.string (s.extract 0 1)] W fun e w' => e = .returned (.string ⟨((bl (s.extract 0 1)).map (ch false)).toArray⟩) ∧ Below W.heap.size W w') := Lib.hid fun W => lower_any (s.extract 0 1) W (by rw [ByteArray.size_extract]; omega)
    have HU : Hid (∀ W, Calls Tryd.prog 8 #[.string (s.extract 0 1)] W fun e w' => e = .returned (.string ⟨((bl (s.extract 0 1)).map (ch true)).toArray⟩) ∧ Below W.heap.size W w') := Lib.hid fun W => upper_any (s.extract 0 1) W (by rw [ByteArray.size_extract]; omega)
    have hcat := first_cat up s
    have z1 : (⟨((bl (s.extract 0 1)).map (ch up)).toArray⟩ : ByteArray).size ≤ 1 := by
      show ((bl (s.extract 0 1)).map (ch up)).toArray.size ≤ 1
      rw [List.size_toArray, List.length_map, bl_len, ByteArray.size_extract]
      omega
    have z2 : (s.extract 1 s.size).size ≤ s.size := by rw [ByteArray.size_extract]; omega
    obtain ⟨y, hy⟩ : ∃ y, s.extract 1 s.size = y := ⟨_, rfl⟩
    rw [hy] at hcat z2
    cases up
    · obtain ⟨x, hx⟩ : ∃ x : ByteArray, x = ⟨((bl (s.extract 0 1)).map (ch false)).toArray⟩ := ⟨_, rfl⟩
      obtain ⟨Z, hZ⟩ : ∃ Z : ByteArray, Z = ⟨(cs false 1 (bl s)).toArray⟩ := ⟨_, rfl⟩
      rw [← hx] at HL hcat z1
      rw [← hZ] at hcat ⊢
      have r1 : ¬ 9223372036854775807 < x.size + y.size := by omega
      clear hx hZ z1 z2 HU h0
      go_enter Tryd.func10, Tryd.ntmps10
      go_wp2
      go_region_held3 (fun _ => True)
        (trivial)
        (first | (go_at_call 6; ((with_reducible refine (HL.out _).mono ?_); rintro e w5 ⟨rfl, hb5⟩)))
      go_wp2
      go_ret
      exact ⟨rfl, by (refine bel_out ?_; (focus (repeat' first | (with_reducible refine bel_refl ?_) | with_reducible assumption | with_reducible refine bel_drew ?_ | with_reducible refine bel_drewN _ ?_ | with_reducible refine bel_alloc _ ?_ | with_reducible refine bel_set ?_ _ ?_ | (with_reducible apply bel_call; with_reducible assumption) | (with_reducible apply bel_owg; with_reducible assumption; (focus omega)) | with_reducible exact Nat.le_refl _ | omega | (simp; done) | (simp; omega))))⟩
    · obtain ⟨x, hx⟩ : ∃ x : ByteArray, x = ⟨((bl (s.extract 0 1)).map (ch true)).toArray⟩ := ⟨_, rfl⟩
      obtain ⟨Z, hZ⟩ : ∃ Z : ByteArray, Z = ⟨(cs true 1 (bl s)).toArray⟩ := ⟨_, rfl⟩
      rw [← hx] at HU hcat z1
      rw [← hZ] at hcat ⊢
      have r1 : ¬ 9223372036854775807 < x.size + y.size := by omega
      clear hx hZ z1 z2 HL h0
      go_enter Tryd.func10, Tryd.ntmps10
      go_wp2
      go_region_held3 (fun _ => True)
        (trivial)
        (first | (go_at_call 8; ((with_reducible refine (HU.out _).mono ?_); rintro e w5 ⟨rfl, hb5⟩)))
      go_wp2
      go_ret
      exact ⟨rfl, by (refine bel_out ?_; (focus (repeat' first | (with_reducible refine bel_refl ?_) | with_reducible assumption | with_reducible refine bel_drew ?_ | with_reducible refine bel_drewN _ ?_ | with_reducible refine bel_alloc _ ?_ | with_reducible refine bel_set ?_ _ ?_ | (with_reducible apply bel_call; with_reducible assumption) | (with_reducible apply bel_owg; with_reducible assumption; (focus omega)) | with_reducible exact Nat.le_refl _ | omega | (simp; done) | (simp; omega))))⟩

theorem trim_any (s : ByteArray) (w : World) (hs : s.size ≤ 8796093022207) :
    Calls Tryd.prog 5 #[.string s] w fun e w' => e = .returned (.string ⟨(Lib.trimS (bl s) WS).toArray⟩) ∧ Below w.heap.size w w' := by
  have hx := Below.refl w.heap.size w
  have HC : Hid (∀ W, Calls Tryd.prog 16 #[.string s, .string ⟨#[9, 10, 13, 32]⟩] W fun e w' => e = .returned (.string ⟨(Lib.trimS (bl s) WS).toArray⟩) ∧ Below W.heap.size W w') := Lib.hid fun W => Tryd.strings_Trim s ⟨#[9, 10, 13, 32]⟩ W (by omega) (by decide) (ascii_of_all (by decide))
  generalize (⟨(Lib.trimS (bl s) WS).toArray⟩ : ByteArray) = z at *
  go_enter Tryd.func5, Tryd.ntmps5
  go_wp2_with (first | (go_at_call 16; ((with_reducible refine (HC.out _).mono ?_); rintro e wn ⟨rfl, hbn⟩; replace hx := below_call hx hbn; clear hbn)))
  go_ret
  exact ⟨rfl, hx⟩

theorem u8_eq {a c : UInt8} : ((a.toNat : Int) == (c.toNat : Int)) = decide (a = c) := by
  by_cases h : a = c
  · subst h; simp
  · have : ¬ a.toNat = c.toNat := fun e => h (UInt8.toNat_inj.1 e)
    simp [h]
    omega
theorem space_any (c : UInt8) (w : World) :
    Calls Tryd.prog 19 #[.int .u8 (c.toNat : Int)] w fun e w' => e = .returned (.bool (WS.contains c)) ∧ w' = w := by
  have HW : Hid (WS.contains c = (decide (c = 9) || decide (c = 10) || decide (c = 13) || decide (c = 32))) := Lib.hid (by simp [Bool.or_assoc])
  have q1 : ((c.toNat : Int) == 9) = decide (c = 9) := u8_eq (c := 9)
  have q2 : ((c.toNat : Int) == 10) = decide (c = 10) := u8_eq (c := 10)
  have q3 : ((c.toNat : Int) == 13) = decide (c = 13) := u8_eq (c := 13)
  have q4 : ((c.toNat : Int) == 32) = decide (c = 32) := u8_eq (c := 32)
  generalize WS.contains c = R at *
  generalize decide (c = 9) = b1 at *
  generalize decide (c = 10) = b2 at *
  generalize decide (c = 13) = b3 at *
  generalize decide (c = 32) = b4 at *
  cases b1 <;> cases b2 <;> cases b3
  all_goals
    go_enter Tryd.func19, Tryd.ntmps19
    go_wp2
    go_ret
    exact ⟨by rw [HW.out]; first | rfl | (apply ret_val; simp), rfl⟩

def szOf : Value → Nat
  | .string x => x.size
  | _ => 0
theorem bl_drop {s : ByteArray} {k : Nat} (h : k < s.size) : (bl s).drop k = s[k] :: (bl s).drop (k + 1) := by
  have h2 : k < (bl s).length := by rw [bl_len]; exact h
  rw [List.drop_eq_getElem_cons h2]
  rfl
theorem bl_snoc {s : ByteArray} {k : Nat} (h : s.size = k + 1) : bl s = bl (s.extract 0 k) ++ [s[k]'(by omega)] := by
  have e1 : bl (s.extract 0 k) = (bl s).take k := by
    have := Lib.extract_data s 0 k
    exact this
  have h2 : k < (bl s).length := by rw [bl_len]; omega
  rw [e1]
  have h3 : (bl s).take (k + 1) = bl s := List.take_of_length_le (by rw [bl_len]; omega)
  conv => lhs; rw [← h3]
  rw [List.take_succ_eq_append_getElem h2]
  rfl

set_option maxRecDepth 100000 in
set_option maxHeartbeats 4000000 in
theorem rtrim_any (s : ByteArray) (w : World) (hs : s.size ≤ 8796093022207) :
    Calls Tryd.prog 12 #[.string s] w fun e w' => e = .returned (.string ⟨(Lib.trimS (bl s) WS).toArray⟩) ∧ w' = w := by
  obtain ⟨Z, hZ⟩ : ∃ Z : ByteArray, Z = ⟨(Lib.trimS (bl s) WS).toArray⟩ := ⟨_, rfl⟩
  have HZ : Hid (∀ y : ByteArray, bl y = tR (tL (bl s)) → y = Z) := Lib.hid fun y hy => by
    rw [hZ, ← trim_eq, ← hy]
  rw [← hZ]
  clear hZ
  go_enter Tryd.func12, Tryd.ntmps12
  go_wp2
  go_loop [0] (fun v => ∃ x : ByteArray, v = .string x ∧ x.size ≤ s.size ∧ Hid (tL (bl x) = tL (bl s))) (fun v => szOf v)
  case atStart => exact ⟨s, rfl, Nat.le_refl _, Lib.hid rfl⟩
  case round =>
    obtain ⟨x, rfl, hxs, HX⟩ := hrel
    have fin : ∀ (P : Prop), P → P := fun _ h => h
    by_cases hx0 : 0 < x.size
    · have hx0' : (0 : Int) < (x.size : Int) := by omega
      have hx1' : (1 : Int) ≤ (x.size : Int) := by omega
      have HS := Lib.hid fun W => space_any x[0] W
      have e0 : bl x = x[0] :: (bl x).drop 1 := by have := bl_drop hx0; simpa using this
      have e1 : bl (x.extract 1 x.size) = (bl x).drop 1 := Lib.extract_to_end x 1
      have z1 : (x.extract 1 x.size).size = x.size - 1 := by rw [ByteArray.size_extract]; omega
      cases hc : WS.contains x[0]
      · rw [hc] at HS
        have HX2 : Hid (bl x = tL (bl s)) := Lib.hid (by
          have h := congrArg tL e0
          rw [tL_no hc, ← e0] at h
          exact h.symm.trans HX.out)
        clear e0 e1 z1 hc HX fin
        go_wp2_with (first | (go_at_call 19; ((with_reducible refine (HS.out _).mono ?_); rintro e wn ⟨rfl, hwn⟩; obtain rfl := hwn.symm; clear hwn)))
        clear HS hx0' hx1'
        go_loop [0] (fun v => ∃ y : ByteArray, v = .string y ∧ y.size ≤ s.size ∧ Hid (tR (bl y) = tR (tL (bl s)))) (fun v => szOf v)
        case atStart => exact ⟨x, rfl, hxs, Lib.hid (by rw [HX2.out])⟩
        case round =>
          obtain ⟨y, rfl, hys, HY⟩ := hrel
          by_cases hy0 : 0 < y.size
          · obtain ⟨k, hk⟩ : ∃ k, y.size = k + 1 := ⟨y.size - 1, by omega⟩
            have hkl : k < y.size := by omega
            have HS := Lib.hid fun W => space_any y[k] W
            have e0 := bl_snoc hk
            have hy0' : (0 : Int) < (y.size : Int) := by omega
            have n1 : (y.size : Int) - 1 = (k : Int) := by omega
            have n2 : IntKind.i64.wrap ((y.size : Int) - 1) = (k : Int) := by rw [IntKind.wrap_i64]; omega
            have n3 : (0 : Int) ≤ (k : Int) := by omega
            have n4 : (k : Int) < (y.size : Int) := by omega
            have n5 : (k : Int) ≤ (y.size : Int) := by omega
            have z1 : (y.extract 0 k).size = k := by rw [ByteArray.size_extract]; omega
            cases hc : WS.contains y[k]
            · rw [hc] at HS
              have HV : Hid (y = Z) := Lib.hid (HZ.out y (by
                have h := congrArg tR e0
                rw [tR_no hc, ← e0] at h
                exact h.symm.trans HY.out))
              clear e0 hc HY HX2 z1 hk
              go_wp2_with (first | (go_at_call 19; ((with_reducible refine (HS.out _).mono ?_); rintro e wn ⟨rfl, hwn⟩; obtain rfl := hwn.symm; clear hwn)))
              go_ret
              exact ⟨by rw [← HV.out]; rfl, rfl⟩
            · rw [hc] at HS
              have HY2 : Hid (tR (bl (y.extract 0 k)) = tR (tL (bl s))) := Lib.hid (by
                have h := congrArg tR e0
                rw [tR_yes hc] at h
                exact h.symm.trans HY.out)
              clear e0 hc HY HX2 hk
              go_wp2_with (first | (go_at_call 19; ((with_reducible refine (HS.out _).mono ?_); rintro e wn ⟨rfl, hwn⟩; obtain rfl := hwn.symm; clear hwn)))
              go_round
              case rel => exact ⟨_, rfl, by omega, HY2⟩
              case measure => show szOf (.string _) < szOf (.string _); simp only [szOf]; omega
          · have hy1 : y.size = 0 := by omega
            have hy0' : ¬ (0 : Int) < (y.size : Int) := by omega
            have HV : Hid (y = Z) := Lib.hid (HZ.out y (by
              have e : bl y = [] := List.eq_nil_of_length_eq_zero (by rw [bl_len]; exact hy1)
              rw [← HY.out, e, tR_nil]))
            clear hy1 HY HX2
            go_wp2
            go_ret
            exact ⟨by rw [← HV.out]; rfl, rfl⟩
      · rw [hc] at HS
        have HX2 : Hid (tL (bl (x.extract 1 x.size)) = tL (bl s)) := Lib.hid (by
          have h := congrArg tL e0
          rw [tL_yes hc] at h
          rw [e1, ← h]
          exact HX.out)
        clear e0 e1 hc HX fin
        go_wp2_with (first | (go_at_call 19; ((with_reducible refine (HS.out _).mono ?_); rintro e wn ⟨rfl, hwn⟩; obtain rfl := hwn.symm; clear hwn)))
        go_round
        case rel => exact ⟨_, rfl, by omega, HX2⟩
        case measure => show szOf (.string _) < szOf (.string _); simp only [szOf]; omega
    · have hx1 : x.size = 0 := by omega
      have hx0' : ¬ (0 : Int) < (x.size : Int) := by omega
      have e : bl x = [] := List.eq_nil_of_length_eq_zero (by rw [bl_len]; exact hx1)
      have HV : Hid (x = Z) := Lib.hid (HZ.out x (by rw [← HX.out, e]; rfl))
      clear e hx1 HX fin
      go_wp2
      go_loop [0] (fun v => v = .string x) (fun v => szOf v)
      case atStart => exact rfl
      case round =>
        obtain rfl := hrel
        go_wp2
        go_ret
        exact ⟨by rw [← HV.out]; rfl, rfl⟩

set_option maxHeartbeats 4000000 in
theorem lawcase_walk (s : ByteArray) (up : Bool) (m : Int) (w : World) (hm : w.cell? ⟨2, 0, none⟩ = some (.int .i64 m)) :
    Calls Tryd.prog 3 #[.string s, .bool up] w fun e w' => e = .returned (.bool true) ∧ Below w.heap.size w w' := by
  have h0 : 2 < w.heap.size := World.block_lt_of_cell? _ _ hm
  have hx := Below.refl w.heap.size w
  by_cases h1 : (400 : Int) < (s.size : Int)
  · go_enter Tryd.func3, Tryd.ntmps3
    go_wp2_with (first | (go_at_call 4; ((with_reducible refine (known_any m _ ((hx.cell (p := ⟨2, 0, none⟩) h0).trans hm)).mono ?_); rintro e wn ⟨rfl, hbn⟩; replace hx := below_call hx hbn; clear hbn)))
    go_ret
    exact ⟨rfl, hx⟩
  have hs : s.size ≤ 8796093022207 := by omega
  obtain ⟨t, ht⟩ : ∃ t : ByteArray, t = ⟨(Lib.trimS (bl s) WS).toArray⟩ := ⟨_, rfl⟩
  obtain ⟨lo, hlo⟩ : ∃ t : ByteArray, t = ⟨((bl s).map (ch false)).toArray⟩ := ⟨_, rfl⟩
  obtain ⟨uu, huu⟩ : ∃ t : ByteArray, t = ⟨((bl s).map (ch true)).toArray⟩ := ⟨_, rfl⟩
  have htz : t.size ≤ s.size := by
    have h2 : bl t = Lib.trimS (bl s) WS := by rw [ht]
    have h3 : (Lib.trimS (bl s) WS).length ≤ (bl s).length := by
      unfold Lib.trimS Lib.trimLeftS Lib.trimRightS
      refine Nat.le_trans (List.dropWhile_sublist _).length_le ?_
      rw [List.length_reverse]
      refine Nat.le_trans (List.dropWhile_sublist _).length_le ?_
      rw [List.length_reverse]
      exact Nat.le_refl _
    rw [← h2, bl_len, bl_len] at h3
    exact h3
  have huz : uu.size = s.size := by rw [← bl_len uu, huu]; simp
  have HT1 := Lib.hid fun W => trim_any s W hs
  have HT2 := Lib.hid fun W => rtrim_any s W hs
  have HT3 : Hid (∀ W, Calls Tryd.prog 5 #[.string t] W fun e w' => e = .returned (.string t) ∧ Below W.heap.size W w') := Lib.hid fun W => by
    have := trim_any t W (by omega)
    have h2 : bl t = Lib.trimS (bl s) WS := by rw [ht]
    rw [h2, trim_trim, ← ht] at this
    exact this
  have HL1 := Lib.hid fun W => lower_any s W hs
  have HL2 := Lib.hid fun W => rlower_any s W hs
  have HU1 := Lib.hid fun W => upper_any s W hs
  have HU2 := Lib.hid fun W => rupper_any s W hs
  have HL3 : Hid (∀ W, Calls Tryd.prog 6 #[.string uu] W fun e w' => e = .returned (.string lo) ∧ Below W.heap.size W w') := Lib.hid fun W => by
    have := lower_any uu W (by omega)
    have h2 : bl uu = (bl s).map (ch true) := by rw [huu]
    rw [h2, map_low_up, ← hlo] at this
    exact this
  have HF1 := Lib.hid fun W => first_any up s W hs
  have HF2 := Lib.hid fun W => rfirst_any up s W hs
  rw [← ht] at HT1 HT2
  rw [← hlo] at HL1 HL2
  rw [← huu] at HU1 HU2
  generalize (⟨(cs up 1 (bl s)).toArray⟩ : ByteArray) = fi at *
  clear ht hlo huu htz huz
  go_enter Tryd.func3, Tryd.ntmps3
  go_wp2_with (first
    | (go_at_call 5; ((with_reducible refine (HT1.out _).mono ?_); rintro e wn ⟨rfl, hbn⟩; replace hx := below_call hx hbn; clear hbn))
    | (go_at_call 5; ((with_reducible refine (HT3.out _).mono ?_); rintro e wn ⟨rfl, hbn⟩; replace hx := below_call hx hbn; clear hbn))
    | (go_at_call 12; ((with_reducible refine (HT2.out _).mono ?_); rintro e wn ⟨rfl, hwn⟩; obtain rfl := hwn.symm; clear hwn))
    | (go_at_call 6; ((with_reducible refine (HL1.out _).mono ?_); rintro e wn ⟨rfl, hbn⟩; replace hx := below_call hx hbn; clear hbn))
    | (go_at_call 6; ((with_reducible refine (HL3.out _).mono ?_); rintro e wn ⟨rfl, hbn⟩; replace hx := below_call hx hbn; clear hbn))
    | (go_at_call 7; ((with_reducible refine (HL2.out _).mono ?_); rintro e wn ⟨rfl, hbn⟩; replace hx := below_call hx hbn; clear hbn))
    | (go_at_call 8; ((with_reducible refine (HU1.out _).mono ?_); rintro e wn ⟨rfl, hbn⟩; replace hx := below_call hx hbn; clear hbn))
    | (go_at_call 9; ((with_reducible refine (HU2.out _).mono ?_); rintro e wn ⟨rfl, hbn⟩; replace hx := below_call hx hbn; clear hbn))
    | (go_at_call 10; ((with_reducible refine (HF1.out _).mono ?_); rintro e wn ⟨rfl, hbn⟩; replace hx := below_call hx hbn; clear hbn))
    | (go_at_call 11; ((with_reducible refine (HF2.out _).mono ?_); rintro e wn ⟨rfl, hbn⟩; replace hx := below_call hx hbn; clear hbn))
    | (go_at_call 4; ((with_reducible refine (known_any m _ ((hx.cell (p := ⟨2, 0, none⟩) h0).trans hm)).mono ?_); rintro e wn ⟨rfl, hbn⟩; replace hx := below_call hx hbn; clear hbn)))
  go_ret
  exact ⟨rfl, hx⟩
end Go.Proofs.YtiggholdcebjjaaDoor
