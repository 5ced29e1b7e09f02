/- The walks of long and DiffCost. -/
import Derived.Test.YtakbpdlfgjfbeaaDoorD17
namespace Go.Proofs.YtakbpdlfgjfbeaaDoor
open Go.RowKit
set_option linter.unusedSimpArgs false
set_option linter.unusedVariables false

set_option maxRecDepth 100000 in
set_option maxHeartbeats 4000000 in
theorem long_any (A : Option Addr) (n c : Nat) (E : List Ed) (w : World) (h1 : RdR RE 2 w A n c E) :
    Calls Tryd.prog 18 #[.slice A n c] w fun e w' => ∃ r : Bool, e = .returned (.bool r) ∧ (r = false → n ≤ 21 ∧ Small E 20) ∧ Below w.heap.size w w' := by
  have H1 := Lib.hid h1
  have hmax : n ≤ maxLen := Nat.le_trans h1.cap h1.max
  unfold maxLen at hmax
  clear h1
  go_enter Tryd.func18, Tryd.ntmps18
  go_wp2
  go_loopw [3] (fun v3 wr => ∃ i : Nat, i ≤ n ∧ v3 = .int .i64 i ∧ i ≤ 21 ∧ Below w.heap.size w wr ∧ Hid (∀ k e, k < i → E[k]? = some e → e.2.length ≤ 20)) (fun v3 _ => n - (intOf v3).toNat)
  case atStart => exact ⟨0, Nat.zero_le _, rfl, by omega, Below.refl _ _, Lib.hid fun k e h => absurd h (Nat.not_lt_zero _)⟩
  case round =>
    obtain ⟨i, hi, rfl, hi21, hbw, HS⟩ := hrel
    by_cases hlt : i < n
    · by_cases h20 : 20 < i
      · have d1 : decide ((20 : Int) < (i : Int)) = true := decide_eq_true (by omega)
        have d2 : decide (20 < i) = true := decide_eq_true (by omega)
        go_wp2_with fail
        go_ret
        exact ⟨true, rfl, (fun h => by cases h), hbw⟩
      · have d1 : decide ((20 : Int) < (i : Int)) = false := decide_eq_false (by omega)
        have d2 : decide (20 < i) = false := decide_eq_false (by omega)
        obtain ⟨b1, o1, k1, L1, B1, m1, e1, rfl, hb1, hE1, hk1, hs1, hr1⟩ := RdE.at_ H1.out hlt
        have c3 := (hbw.cell (p := ⟨b1, o1 + i * 2 + 1, none⟩) hb1).trans hs1
        have hmm : m1 ≤ maxLen := Nat.le_trans hr1.cap hr1.max
        unfold maxLen at hmm
        have HL := Lib.hid hr1.len
        have HE1 := Lib.hid hE1
        have p1 : (i : Int) < (n : Int) := by omega
        have p2 : (0 : Int) ≤ (i : Int) := by omega
        clear hE1 hk1 hs1 hr1
        by_cases hm : 20 < m1
        · have d3 : decide ((20 : Int) < (m1 : Int)) = true := decide_eq_true (by omega)
          have d4 : decide (20 < m1) = true := decide_eq_true (by omega)
          go_wp2_with fail
          go_ret
          exact ⟨true, rfl, (fun h => by cases h), hbw⟩
        · have d3 : decide ((20 : Int) < (m1 : Int)) = false := decide_eq_false (by omega)
          have d4 : decide (20 < m1) = false := decide_eq_false (by omega)
          go_wp2_with fail
          go_roundw
          case rel => exact ⟨i + 1, by omega, by go_num, by omega, hbw, Lib.hid fun k e hk he => by
            rcases Nat.lt_or_ge k i with h | h
            · exact HS.out k e h he
            · obtain rfl : k = i := by omega
              rw [HE1.out] at he
              injection he with he
              rw [← he]
              show L1.length ≤ 20
              have := HL.out
              omega⟩
          case measure => (simp [intOf]; try omega)
    · obtain rfl : i = n := by omega
      have hi2 : (i : Int) ≤ (i : Int) := by omega
      have HF : Hid (Small E 20) := Lib.hid fun e he => by
        obtain ⟨k, hk, rfl⟩ := List.mem_iff_getElem.1 he
        exact HS.out k _ (by rw [H1.out.len]; exact hk) (List.getElem?_eq_getElem hk)
      go_wp2
      go_ret
      exact ⟨false, rfl, fun _ => ⟨hi21, HF.out⟩, hbw⟩
theorem Small.mono {E : List Ed} {a b : Nat} (h : Small E a) (hab : a ≤ b) : Small E b := fun e he => Nat.le_trans (h e he) hab
theorem scr_len (x y : List ByteArray) : (scr x y).length ≤ x.length + y.length := by
  have hs : ∀ n (x y : List ByteArray), x.length + y.length ≤ n → (scr x y).length ≤ x.length + y.length := by
    intro n
    induction n with
    | zero =>
      intro x y h
      cases x with
      | nil => cases y with
        | nil => simp [scr]
        | cons b y => simp at h
      | cons a x => simp at h
    | succ n ih =>
      intro x y h
      cases x with
      | nil => cases y with
        | nil => simp [scr]
        | cons b y =>
          simp only [List.length_cons, List.length_nil] at h
          have := ih [] y (by simp only [List.length_nil]; omega)
          rw [scr]; simp only [List.length_cons, List.length_nil] at *; omega
      | cons a x => cases y with
        | nil =>
          simp only [List.length_cons, List.length_nil] at h
          have := ih x [] (by simp only [List.length_nil]; omega)
          rw [scr]; simp only [List.length_cons, List.length_nil] at *; omega
        | cons b y =>
          simp only [List.length_cons] at h
          have i1 := ih x y (by omega)
          have i2 := ih x (b :: y) (by simp only [List.length_cons]; omega)
          have i3 := ih (a :: x) y (by simp only [List.length_cons]; omega)
          rw [scr]
          split
          · simp only [List.length_cons] at *; omega
          · split <;> simp only [List.length_cons] at * <;> omega
  exact hs _ x y (Nat.le_refl _)
theorem EI_small (a b : ByteArray) (ha : a.size ≤ 1000) (hb : b.size ≤ 1000) : Small (EI (edits (LN a) (LN b))) 100000 := by
  -- an edit's lines are fewer than all changes and all lines
  have key : ∀ (l : List (Nat × ByteArray)) (s : St ByteArray) (M : Nat), (∀ e ∈ s.E, e.2.length ≤ M) → s.D.length + l.length ≤ M → s.I.length + l.length ≤ M → s.K.length + l.length ≤ M → ∀ e ∈ fin (l.foldl stp s), e.2.length ≤ M := by
    intro l
    induction l with
    | nil =>
      intro s M h1 h2 h3 h4 e he
      simp only [List.foldl_nil, fin, List.mem_append, List.length_nil, Nat.add_zero] at *
      rcases he with ((he | he) | he) | he
      · exact h1 e he
      all_goals
        unfold put1 at he
        split at he
        · simp at he
        · simp at he; rw [he]; assumption
    | cons o l ih =>
      intro s M h1 h2 h3 h4
      rw [List.foldl_cons]
      simp only [List.length_cons] at h2 h3 h4
      apply ih
      · intro e he
        unfold stp at he
        split at he
        · simp only [List.mem_append] at he
          rcases he with (he | he) | he
          · exact h1 e he
          all_goals
            unfold put1 at he
            split at he
            · simp at he
            · simp at he; rw [he]; simp only []; omega
        · split at he
          all_goals
            simp only [List.mem_append] at he
            rcases he with he | he
            · exact h1 e he
            · unfold put1 at he
              split at he
              · simp at he
              · simp at he; rw [he]; simp only []; omega
      all_goals
        unfold stp
        split
        · simp <;> omega
        · split <;> simp <;> omega
  have hl := scr_len (LN a) (LN b)
  have h1 := LN_length a
  have h2 := LN_length b
  intro e he
  unfold EI at he
  obtain ⟨e', he', rfl⟩ := List.mem_map.1 he
  have := key (scr (LN a) (LN b)) ⟨[], [], [], []⟩ 2000 (by simp) (by simp; omega) (by simp; omega) (by simp; omega) e' he'
  show e'.2.length ≤ 100000
  omega

set_option maxRecDepth 100000 in
set_option maxHeartbeats 4000000 in
theorem cost_law (A : Option Addr) (n c : Nat) (zs : List Int) (B : Option Addr) (n2 c2 : Nat) (E : List Ed) (m : Int) (w : World) (hr : RdZ w A n c zs) (hE : RdR RE 2 w B n2 c2 E) (hm : w.cell? ⟨0, 0, none⟩ = some (.int .i64 m)) :
    Calls Tryd.prog 5 #[.slice A n c, .slice B n2 c2] w fun e w' => e = .returned (.bool true) ∧ Below w.heap.size w w' := by
  have h00 : 0 < w.heap.size := World.block_lt_of_cell? w _ hm
  have HK := Lib.hid (knownOk m)
  have HM := Lib.hid hm
  have HP := Lib.hid fun W (hb : Below w.heap.size w W) => pair_any A n c zs W ⟨hr.len, hr.cap, hr.max, (hr.reads.below hb).more hb.size⟩
  have HLO := Lib.hid (long_any B n2 c2 E w hE)
  have HE := Lib.hid hE
  clear hm hr hE
  go_enter Tryd.func5, Tryd.ntmps5
  go_wp2_with fail
  go_at_call 18
  refine HLO.out.mono ?_
  rintro e w1 ⟨r, rfl, hsm, hb1⟩
  cases r with
  | true =>
    go_wp2_with fail
    go_at_call 11
    refine (HK.out w1 ((hb1.cell h00).trans HM.out)).mono ?_
    rintro e w2 ⟨rfl, hb2⟩
    go_wp2_with fail
    go_ret
    exact ⟨rfl, below_call hb1 hb2⟩
  | false =>
    obtain ⟨hn2, hsE⟩ := hsm rfl
    have HSE := Lib.hid (hsE.mono (show 20 ≤ 100000 by omega))
    clear hsm hsE
    go_wp2_with fail
    go_at_call 12
    refine (HP.out w1 hb1).mono ?_
    rintro e w2 ⟨x, y, rfl, hx, hy, hb2⟩
    have hb02 := below_call hb1 hb2
    have HX := Lib.hid hx
    have HY := Lib.hid hy
    have HXY : Hid (∀ W : World, W.cell? ⟨0, 0, none⟩ = some (.int .i64 m) → Calls Tryd.prog 14 #[.string x, .string y] W (RRead W (EI (edits (LN x) (LN y))))) := Lib.hid (diffOk m x y (by omega) (by omega))
    have HYX : Hid (∀ W : World, W.cell? ⟨0, 0, none⟩ = some (.int .i64 m) → Calls Tryd.prog 14 #[.string y, .string x] W (RRead W (EI (edits (LN y) (LN x))))) := Lib.hid (diffOk m y x (by omega) (by omega))
    have S1 := Lib.hid (EI_small x y (by omega) (by omega))
    have S2 := Lib.hid (EI_small y x (by omega) (by omega))
    have L1 := Lib.hid (EIe_len x y (by omega) (by omega))
    have L2 := Lib.hid (EIe_len y x (by omega) (by omega))
    have hln : (LN x).length ≤ 150 := Nat.le_trans (LN_length x) hx
    have hln2 : (LN y).length ≤ 150 := Nat.le_trans (LN_length y) hy
    have C1 := Lib.hid (cost_edits (LN x) (LN y))
    have C2 := Lib.hid (cost_edits (LN y) (LN x))
    have CC := Lib.hid (lcs_comm (LN x) (LN y))
    have hlc := (lcs_le (LN x) (LN y)).1
    have HLX := Lib.hid fun W => rlines_n x (LN x).length (LN x) rfl rfl (by omega) W
    have HLY := Lib.hid fun W => rlines_n y (LN y).length (LN y) rfl rfl (by omega) W
    have HCO := Lib.hid fun A c A2 c2 W => rcommon_n A (LN x).length c (LN x) A2 (LN y).length c2 (LN y) ((LN x).length + 1) ((LN y).length + 1) rfl rfl (by omega) (by omega) W
    have HT0 : Hid (LT (LN x) (LN y) 0 0 = lcs (LN x) (LN y)) := Lib.hid rfl
    clear HP hb1 hb2 hx hy HLO
    generalize hX : LN x = X at *
    generalize hY : LN y = Y at *
    clear hX hY
    go_wp2_with fail
    go_at_call 19
    refine (HLX.out w2).mono ?_
    rintro e w3 ⟨A3, c3, rfl, hx3, hb3⟩
    go_wp2_with fail
    go_at_call 19
    refine (HLY.out w3).mono ?_
    rintro e w4 ⟨A4, c4, rfl, hy4, hb4⟩
    go_wp2_with fail
    go_at_call 20
    refine (HCO.out _ _ _ _ _ (hx3.below RS.stay hb4) hy4).mono ?_
    rintro e w5 ⟨T, b, rfl, hT, hb5⟩
    have hb05 := below_call (below_call (below_call hb02 hb3) hb4) hb5
    have e1 := hT.slot (i := 0) (by omega) trivial
    have e2 := hT.at_ (i := 0) (j := 0) (by omega) trivial (by omega)
    rw [HT0.out] at e2
    clear hT hx3 hy4 hb02 hb3 hb4 hb5
    generalize lcs X Y = lc at *
    generalize hN : X.length + 1 = N at *
    generalize hM : Y.length + 1 = M at *
    have p1 : (0 : Int) < (N : Int) := by omega
    have p2 : (0 : Int) < (M : Int) := by omega
    clear hN hM
    go_wp2_with fail
    go_at_call 14
    refine (HXY.out w5 ((hb05.cell h00).trans HM.out)).mono ?_
    rintro e w6 ⟨A6, n6, c6, rfl, hE6, hb6⟩
    have hb06 := below_call hb05 hb6
    have HC6 := Lib.hid (cost_any A6 n6 c6 _ w6 hE6 (by rw [hE6.len]; have := L1.out; omega) S1.out)
    have hq1 : costL (EI (edits X Y)) + 2 * lc = X.length + Y.length := by rw [costL_EI]; exact C1.out
    have hq2 : costL (EI (edits Y X)) + 2 * lc = X.length + Y.length := by rw [costL_EI]; have := C2.out; rw [← CC.out] at this; omega
    clear e1 e2 hb05 hb6 hE6 HCO HLX HLY C1 C2 CC HT0 HXY
    generalize costL (EI (edits X Y)) = k1 at *
    generalize hk2 : costL (EI (edits Y X)) = k2 at *
    replace hk2 := Lib.hid hk2
    have HQ1 := Lib.hid hq1
    have HQ2 := Lib.hid hq2
    have b1 : (lc : Int) ≤ 150 := by omega
    have b2 : (X.length : Int) ≤ 150 := by omega
    have b3 : (Y.length : Int) ≤ 150 := by omega
    have b4 : (k1 : Int) ≤ 300 := by omega
    have b5 : (k2 : Int) ≤ 300 := by omega
    have dq1 : ((k1 : Int) == (X.length : Int) + (Y.length : Int) - 2 * (lc : Int)) = true := by rw [beq_iff_eq]; omega
    have dq2 : ((k2 : Int) == (X.length : Int) + (Y.length : Int) - 2 * (lc : Int)) = true := by rw [beq_iff_eq]; omega
    clear hq1 hq2
    go_wp2_with fail
    go_at_call 17
    refine HC6.out.mono ?_
    rintro e w7 ⟨rfl, hb7⟩
    have hb07 := below_call hb06 hb7
    clear hb06 hb7 HC6
    go_wp2_with fail
    go_at_call 14
    refine (HYX.out w7 ((hb07.cell h00).trans HM.out)).mono ?_
    rintro e w8 ⟨A8, n8, c8, rfl, hE8, hb8⟩
    have hb08 := below_call hb07 hb8
    have HC8 := Lib.hid (cost_any A8 n8 c8 _ w8 hE8 (by rw [hE8.len]; have := L2.out; omega) S2.out)
    rw [hk2.out] at HC8
    clear hb07 hb8 hE8
    go_wp2_with fail
    go_at_call 17
    refine HC8.out.mono ?_
    rintro e w9 ⟨rfl, hb9⟩
    have hb09 := below_call hb08 hb9
    clear hb08 hb9 HC8
    have HC9 := Lib.hid (cost_any B n2 c2 E w9 (RdE.below HE.out hb09) (by omega) HSE.out)
    go_wp2_with fail
    go_at_call 17
    refine HC9.out.mono ?_
    rintro e w10 ⟨rfl, hb10⟩
    have hb010 := below_call hb09 hb10
    clear hb09 hb10 HC9
    have HC10 := Lib.hid (rcost_any B n2 c2 E w10 (RdE.below HE.out hb010) (by omega) HSE.out)
    go_wp2_with fail
    go_at_call 21
    refine HC10.out.mono ?_
    rintro e w11 ⟨rfl, hb11⟩
    have hb011 := below_call hb010 hb11
    have dq3 : ((costL E : Int) == (costL E : Int)) = true := by simp
    clear hb010 hb11 HC10
    go_wp2_with fail
    go_at_call 11
    refine (HK.out w11 ((hb011.cell h00).trans HM.out)).mono ?_
    rintro e w12 ⟨rfl, hb12⟩
    go_wp2_with fail
    go_ret
    exact ⟨rfl, below_call hb011 hb12⟩
end Go.Proofs.YtakbpdlfgjfbeaaDoor
