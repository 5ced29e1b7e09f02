/- The reference's Diff. -/
import Derived.Test.YtakbpdlfgjfbeaaDoorD7
import Derived.Test.YtakbpdlfgjfbeaaDoorD9
import Derived.Test.YtakbpdlfgjfbeaaDoorDP5
import Derived.Deep.CutBlock
import Derived.Deep.DeepCutAuto
namespace Go.Proofs.YtakbpdlfgjfbeaaDoor
open Go.RowKit
set_option linter.unusedSimpArgs false
set_option linter.unusedVariables false

theorem rlines_n (s : ByteArray) (n : Nat) (x : List ByteArray) (hx : LN s = x) (hn : x.length = n) (hs : s.size ≤ 4294967280) (w : World) :
    Calls Tryd.prog 19 #[.string s] w fun e w' => ∃ A c, e = .returned (.slice A n c) ∧ RdR RS 1 w' A n c x ∧ Below w.heap.size w w' := by
  subst hx hn
  refine (rlines_any s w hs).mono ?_
  rintro e w' ⟨A, c, rfl, ho, hb⟩
  exact ⟨A, c, rfl, ho.rd, hb⟩
theorem rcommon_n (A : Option Addr) (n c : Nat) (x : List ByteArray) (A2 : Option Addr) (n2 c2 : Nat) (y : List ByteArray) (N M : Nat) (hN : N = x.length + 1) (hM : M = y.length + 1) (hn : n ≤ 2000) (hn2 : n2 ≤ 2000) (w : World) (hx : RdR RS 1 w A n c x) (hy : RdR RS 1 w A2 n2 c2 y) :
    Calls Tryd.prog 20 #[.slice A n c, .slice A2 n2 c2] w fun e w' => ∃ B b, e = .returned (.slice (some ⟨B, 0, none⟩) N N) ∧ Tab w' w.heap.size 22 3 .i64 B N M b (fun _ => True) (LT x y) ∧ Below w.heap.size w w' := by
  subst hN hM
  exact rcommon_any A n c x A2 n2 c2 y w hx hy hn hn2

theorem EIp1 (E : List (Nat × List ByteArray)) (L : List ByteArray) : EI E ++ putI 1 L = EI (E ++ put1 1 L) := by rw [EI_append, EI_put']; rfl
theorem EIp2 (E : List (Nat × List ByteArray)) (L : List ByteArray) : EI E ++ putI 2 L = EI (E ++ put1 2 L) := by rw [EI_append, EI_put']; rfl
theorem EIp3 (E : List (Nat × List ByteArray)) (L : List ByteArray) : EI E ++ putI 3 L = EI (E ++ put1 3 L) := by rw [EI_append, EI_put']; rfl
theorem EI_put_len (E : List (Nat × List ByteArray)) (k : Nat) (L : List ByteArray) : (EI (E ++ put1 k L)).length ≤ (EI E).length + 1 := by
  rw [EI_length, EI_length, List.length_append]
  have := put1_length k L
  omega

set_option maxRecDepth 100000 in
set_option maxHeartbeats 8000000 in
theorem rdiff_any (a b : ByteArray) (w : World) (ha : a.size ≤ 1000) (hb : b.size ≤ 1000) :
    Calls Tryd.prog 15 #[.string a, .string b] w (REdits w (EI (edits (LN a) (LN b)))) := by
  obtain ⟨i0, hinf, hz0, hz1, hz2⟩ := info_parts str_info
  obtain ⟨x, hx⟩ : ∃ x, LN a = x := ⟨_, rfl⟩
  obtain ⟨y, hy⟩ : ∃ y, LN b = y := ⟨_, rfl⟩
  obtain ⟨n, hn⟩ : ∃ n, x.length = n := ⟨_, rfl⟩
  obtain ⟨n2, hn2⟩ : ∃ n, y.length = n := ⟨_, rfl⟩
  have hn1 : (n : Int) ≤ 1000 := by have := LN_length a; rw [hx, hn] at this; omega
  have hm1 : (n2 : Int) ≤ 1000 := by have := LN_length b; rw [hy, hn2] at this; omega
  rw [hx, hy]
  obtain ⟨N, hN1, hN2⟩ : ∃ N, N ≤ n + 1 ∧ n + 1 ≤ N := ⟨n + 1, Nat.le_refl _, Nat.le_refl _⟩
  obtain ⟨M, hM1, hM2⟩ : ∃ M, M ≤ n2 + 1 ∧ n2 + 1 ≤ M := ⟨n2 + 1, Nat.le_refl _, Nat.le_refl _⟩
  have HLA := Lib.hid fun W => rlines_n a n x hx hn (by omega) W
  have HLB := Lib.hid fun W => rlines_n b n2 y hy hn2 (by omega) W
  have HCO := Lib.hid fun A c A2 c2 W => rcommon_n A n c x A2 n2 c2 y N M (by omega) (by omega) (by omega) (by omega) W
  have hlx := Lib.hid hn
  have hly := Lib.hid hn2
  have hd1 : decide ((1000 : Int) < (n : Int)) = false := by simp; omega
  have hd2 : decide ((1000 : Int) < (n2 : Int)) = false := by simp; omega
  clear hx hy ha hb hn hn2
  go_enter Tryd.func15, Tryd.ntmps15
  go_wp2_with fail
  go_at_call 19
  refine (HLA.out _).mono ?_
  rintro e w1 ⟨A1, c1, rfl, hx1, hb1⟩
  go_wp2_with fail
  go_at_call 19
  refine (HLB.out _).mono ?_
  rintro e w2 ⟨A2, c2, rfl, hy2, hb2⟩
  go_wp2_with fail
  go_at_call 20
  refine (HCO.out _ _ _ _ _ (hx1.below RS.stay hb2) hy2).mono ?_
  rintro e w3 ⟨B, b, rfl, hT, hb3⟩
  have HX := Lib.hid ((hx1.below RS.stay hb2).below RS.stay hb3)
  have HY := Lib.hid (hy2.below RS.stay hb3)
  have HT := Lib.hid hT
  have hw3 : Below w.heap.size w w3 := below_call (below_call hb1 hb2) hb3
  have hBl := hT.B_lt
  clear hx1 hy2 hT hb1 hb2 hb3
  go_wp2
  go_loopw [8, 9, 10] (fun v8 v9 v10 wr => ∃ (Al : Option Addr) (nl cl : Nat) (E : List (Nat × List ByteArray)) (i j : Nat), i ≤ n ∧ j ≤ n2 ∧ v8 = .slice Al nl cl ∧ v9 = .int .i64 i ∧ v10 = .int .i64 j ∧ RdR (REX NoX) 2 wr Al nl cl (EI E) ∧ nl ≤ 3 * (i + j) ∧ Below w3.heap.size w3 wr ∧ Hid (Inv x y ⟨E, [], [], []⟩ i j)) (fun _ v9 v10 _ => n + n2 - (intOf v9).toNat - (intOf v10).toNat)
  case atStart => exact ⟨none, 0, 0, [], 0, 0, Nat.zero_le _, Nat.zero_le _, rfl, rfl, rfl, RdR.nil _ _ _, Nat.le_refl _, Below.refl _ _, Lib.hid (Inv.start x y)⟩
  case round =>
    obtain ⟨Al, nl, cl, E, i, j, hi, hj, rfl, rfl, rfl, hE, hnl, hbw, HI⟩ := hrel
    go_upto_region 9 with fail
    go_cut [47] (fun c wx => c = .bool (decide (i < n ∨ j < n2)) ∧ wx = wr)
    case first =>
      by_cases h1 : i < n
      · have d1 : decide ((i : Int) < (n : Int)) = true := by simpa using h1
        have d2 : decide (i < n) = true := by simpa using h1
        go_wp2_with fail
        go_meet
        exact ⟨by simp [h1], rfl⟩
      · have d1 : decide ((i : Int) < (n : Int)) = false := by simpa using h1
        have d2 : decide (i < n) = false := by simpa using h1
        go_wp2_with fail
        go_meet
        exact ⟨by simp [h1], rfl⟩
    case rest =>
      obtain ⟨rfl, rfl⟩ := hcut
      by_cases hend : i < n ∨ j < n2
      · have hd : decide (i < n ∨ j < n2) = true := by simpa using hend
        have HE := Lib.hid hE
        clear hE
        obtain ⟨w5, rfl⟩ : ∃ q, q = wc := ⟨_, rfl⟩
        go_upto_block 2 with fail
        go_cut [9, 10] (fun p9 p10 wx => ∃ i1 j1 : Nat, p9 = .int .i64 i1 ∧ p10 = .int .i64 j1 ∧ i ≤ i1 ∧ j ≤ j1 ∧ i1 ≤ n ∧ j1 ≤ n2 ∧ Below w5.heap.size w5 wx ∧ Hid (¬ hitAt x y i1 j1) ∧ Hid (Inv x y ⟨E, [], [], (x.drop i).take (i1 - i)⟩ i1 j1))
        case first =>
          go_wp2_with fail
          go_loopw [9, 10] (fun v9 v10 wr => ∃ i1 j1 : Nat, v9 = .int .i64 i1 ∧ v10 = .int .i64 j1 ∧ i ≤ i1 ∧ j ≤ j1 ∧ i1 ≤ n ∧ j1 ≤ n2 ∧ Below w5.heap.size w5 wr ∧ Hid (Inv x y ⟨E, [], [], (x.drop i).take (i1 - i)⟩ i1 j1)) (fun v9 _ _ => n - (intOf v9).toNat)
          case atStart => exact ⟨i, j, rfl, rfl, Nat.le_refl _, Nat.le_refl _, hi, hj, Below.refl _ _, Lib.hid (by rw [Nat.sub_self, List.take_zero]; exact HI.out)⟩
          case round =>
            obtain ⟨i1, j1, rfl, rfl, hi0, hj0, hi1, hj1, hbz, HI1⟩ := hrel
            have hbz3 : Below w3.heap.size w3 wr := below_call hbw hbz
            by_cases h1 : i1 < n
            · have d1 : decide ((i1 : Int) < (n : Int)) = true := by simpa using h1
              have d2 : decide (i1 < n) = true := by simpa using h1
              obtain ⟨bx, ox, rfl, hbx, hcx⟩ := RdS.opened HX.out (by omega)
              have cx := (hbz3.cell (p := ⟨bx, ox + i1, none⟩) hbx).trans (hcx i1 h1)
              clear hcx
              have p1 : (i1 : Int) < (n : Int) := by omega
              have p2 : (0 : Int) ≤ (i1 : Int) := by omega
              by_cases h2 : j1 < n2
              · have d3 : decide ((j1 : Int) < (n2 : Int)) = true := by simpa using h2
                have d4 : decide (j1 < n2) = true := by simpa using h2
                obtain ⟨by_, oy, rfl, hby, hcy⟩ := RdS.opened HY.out (by omega)
                have cy := (hbz3.cell (p := ⟨by_, oy + j1, none⟩) hby).trans (hcy j1 h2)
                clear hcy
                have p3 : (j1 : Int) < (n2 : Int) := by omega
                have p4 : (0 : Int) ≤ (j1 : Int) := by omega
                by_cases h3 : x.getD i1 BE = y.getD j1 BE
                · have hh : hitAt x y i1 j1 := ⟨by rw [hlx.out]; exact h1, by rw [hly.out]; exact h2, h3⟩
                  have HI2 : Hid (Inv x y ⟨E, [], [], (x.drop i).take (i1 + 1 - i)⟩ (i1 + 1) (j1 + 1)) := Lib.hid (by
                    have := HI1.out.hit hh
                    rw [stp1, take_snoc_drop x hi0 (by rw [hlx.out]; exact h1)] at this
                    exact this)
                  have hq : ((x.getD i1 BE).toList == (y.getD j1 BE).toList) = true := by rw [str_beq]; simpa using h3
                  clear h3 hh HI1
                  generalize x.getD i1 BE = xk at *
                  generalize y.getD j1 BE = yk at *
                  go_wp2_with fail
                  go_quiet (fail)
                  go_wp2_with fail
                  go_roundw
                  case rel => exact ⟨i1 + 1, j1 + 1, by go_num, by go_num, by omega, by omega, by omega, by omega, below_drewN hbz nq, HI2⟩
                  case measure => (simp [intOf]; try omega)
                · have hh : ¬ hitAt x y i1 j1 := fun h => h3 h.2.2
                  have hq : ((x.getD i1 BE).toList == (y.getD j1 BE).toList) = false := by rw [str_beq]; simpa using h3
                  clear h3
                  replace hh := Lib.hid hh
                  generalize x.getD i1 BE = xk at *
                  generalize y.getD j1 BE = yk at *
                  go_wp2_with fail
                  go_quiet (fail)
                  go_wp2_with fail
                  go_meet
                  exact ⟨i1, j1, rfl, rfl, hi0, hj0, hi1, hj1, below_drewN hbz nq, hh, HI1⟩
              · have d3 : decide ((j1 : Int) < (n2 : Int)) = false := by simpa using h2
                have d4 : decide (j1 < n2) = false := by simpa using h2
                have hh : Hid (¬ hitAt x y i1 j1) := Lib.hid fun h => h2 (by rw [← hly.out]; exact h.2.1)
                go_wp2_with fail
                go_quiet (fail)
                go_wp2_with fail
                go_meet
                exact ⟨i1, j1, rfl, rfl, hi0, hj0, hi1, hj1, below_drewN hbz nq, hh, HI1⟩
            · have d1 : decide ((i1 : Int) < (n : Int)) = false := by simpa using h1
              have d2 : decide (i1 < n) = false := by simpa using h1
              have hh : Hid (¬ hitAt x y i1 j1) := Lib.hid fun h => h1 (by rw [← hlx.out]; exact h.1)
              go_wp2_with fail
              go_quiet (fail)
              go_wp2_with fail
              go_meet
              exact ⟨i1, j1, rfl, rfl, hi0, hj0, hi1, hj1, below_drewN hbz nq, hh, HI1⟩
        case rest =>
          obtain ⟨i1, j1, rfl, rfl, hi0, hj0, hi1, hj1, hbc, HN, HI1⟩ := hcut
          have hE5 := HE.out.below (REX.stay NoX) hbc
          obtain ⟨K', hrun, hK⟩ := RdS.cut (P := Tryd.prog) (t := 30) ((HX.out.below RS.stay hbw).below RS.stay hbc) Tryd.underlying30 (fun W => by kernel_rfl) (i : Int) (i1 : Int) i (i1 - i) rfl (by omega) (by omega)
          have HPUT := Lib.hid (rput_any Al nl cl (EI E) 1 K' (i1 - i) (c1 - i) ((x.drop i).take (i1 - i)) wc hE5 hK (by omega) (by omega))
          have hl5 := hE5.len
          have q1 : (i : Int) ≤ (i1 : Int) := by omega
          have q2 : (i1 : Int) ≤ (n : Int) := by omega
          have q3 : (0 : Int) ≤ (i : Int) := by omega
          have HL5 := Lib.hid hl5
          clear hl5 hE5 hK
          go_wp2_with fail
          go_at_call 36
          refine HPUT.out.mono ?_
          rintro e w6 ⟨A3, n3, c3, rfl, hE6, hb6⟩
          rw [EIp1] at hE6
          have hn3 : n3 ≤ nl + 1 := by
            have := EI_put_len E 1 ((x.drop i).take (i1 - i))
            have := hE6.len
            have := HL5.out
            omega
          have HI2 := Lib.hid (HI1.out.kept HN.out)
          have hb36 : Below w3.heap.size w3 w6 := below_call (below_call hbw hbc) hb6
          clear HI1 HPUT hrun HE
          generalize E ++ put1 1 ((x.drop i).take (i1 - i)) = E1 at *
          have HE6 := Lib.hid hE6
          clear hE6
          go_upto_block 4 with fail
          go_cut [9, 10, 12, 13] (fun p9 p10 p12 p13 wx => ∃ (i2 j2 : Nat) (Ad : Option Addr) (nd cd : Nat) (Ai : Option Addr) (ni ci : Nat) (D I : List ByteArray), p9 = .int .i64 i2 ∧ p10 = .int .i64 j2 ∧ p12 = .slice Ad nd cd ∧ p13 = .slice Ai ni ci ∧ i1 ≤ i2 ∧ j1 ≤ j2 ∧ i2 ≤ n ∧ j2 ≤ n2 ∧ RdR RS 1 wx Ad nd cd D ∧ RdR RS 1 wx Ai ni ci I ∧ nd ≤ 2000 ∧ ni ≤ 2000 ∧ Below w6.heap.size w6 wx ∧ Hid (hitAt x y i2 j2 ∨ (n ≤ i2 ∧ n2 ≤ j2)) ∧ Hid (Inv x y ⟨E1, D, I, []⟩ i2 j2))
          case first =>
            go_wp2_with fail
            go_loopw [9, 10, 12, 13] (fun v9 v10 v12 v13 wr => ∃ (i2 j2 : Nat) (Ad : Option Addr) (nd cd : Nat) (Ai : Option Addr) (ni ci : Nat) (D I : List ByteArray), v9 = .int .i64 i2 ∧ v10 = .int .i64 j2 ∧ v12 = .slice Ad nd cd ∧ v13 = .slice Ai ni ci ∧ i1 ≤ i2 ∧ j1 ≤ j2 ∧ i2 ≤ n ∧ j2 ≤ n2 ∧ OwR RS 1 wr w6.heap.size 9 Ad nd cd D ∧ OwR RS 1 wr w6.heap.size 9 Ai ni ci I ∧ Hid (Ne2 Ad Ai) ∧ nd ≤ i2 ∧ ni ≤ j2 ∧ Below w6.heap.size w6 wr ∧ Hid (Inv x y ⟨E1, D, I, []⟩ i2 j2)) (fun v9 v10 _ _ _ => n + n2 - (intOf v9).toNat - (intOf v10).toNat)
            case atStart => exact ⟨i1, j1, none, 0, 0, none, 0, 0, [], [], rfl, rfl, rfl, rfl, Nat.le_refl _, Nat.le_refl _, hi1, hj1, OwR.nil _ _ _ _ _, OwR.nil _ _ _ _ _, Lib.hid (Ne2.none_ _), Nat.zero_le _, Nat.zero_le _, Below.refl _ _, HI2⟩
            case round =>
              obtain ⟨i2, j2, Ad, nd, cd, Ai, ni, ci, D, I, rfl, rfl, rfl, rfl, ha1, ha2, ha3, ha4, hD, hI, HNE, hnd, hni, hbz, HI3⟩ := hrel
              clear HI2
              have hbz3 : Below w3.heap.size w3 wr := below_call hb36 hbz
              have hsz6 := hbz.size
              by_cases h1 : i2 < n
              · by_cases h2 : j2 < n2
                · obtain ⟨bx, ox, rfl, hbx, hcx⟩ := RdS.opened HX.out (by omega)
                  have cx := (hbz3.cell (p := ⟨bx, ox + i2, none⟩) hbx).trans (hcx i2 h1)
                  clear hcx
                  have p1 : (i2 : Int) < (n : Int) := by omega
                  have p2 : (0 : Int) ≤ (i2 : Int) := by omega
                  have d1 : decide ((i2 : Int) < (n : Int)) = true := by simpa using h1
                  have d2 : decide (i2 < n) = true := by simpa using h1
                  have d5 : ((i2 : Int) == (n : Int)) = false := by rw [beq_eq_false_iff_ne]; omega
                  have d6 : (i2 == n) = false := by rw [beq_eq_false_iff_ne]; omega
                  obtain ⟨by_, oy, rfl, hby, hcy⟩ := RdS.opened HY.out (by omega)
                  have cy := (hbz3.cell (p := ⟨by_, oy + j2, none⟩) hby).trans (hcy j2 h2)
                  clear hcy
                  have p3 : (j2 : Int) < (n2 : Int) := by omega
                  have p4 : (0 : Int) ≤ (j2 : Int) := by omega
                  have d3 : decide ((j2 : Int) < (n2 : Int)) = true := by simpa using h2
                  have d4 : decide (j2 < n2) = true := by simpa using h2
                  have d7 : ((j2 : Int) == (n2 : Int)) = false := by rw [beq_eq_false_iff_ne]; omega
                  have d8 : (j2 == n2) = false := by rw [beq_eq_false_iff_ne]; omega
                  by_cases h3 : x.getD i2 BE = y.getD j2 BE
                  · have hh : Hid (hitAt x y i2 j2 ∨ (n ≤ i2 ∧ n2 ≤ j2)) := Lib.hid (Or.inl ⟨by rw [hlx.out]; exact h1, by rw [hly.out]; exact h2, h3⟩)
                    have hq : ((x.getD i2 BE).toList == (y.getD j2 BE).toList) = true := by rw [str_beq]; simpa using h3
                    clear h3
                    generalize x.getD i2 BE = xk at *
                    generalize y.getD j2 BE = yk at *
                    go_wp2_with fail
                    go_quiet (fail)
                    go_wp2_with fail
                    go_meet
                    exact ⟨i2, j2, Ad, nd, cd, Ai, ni, ci, D, I, rfl, rfl, rfl, rfl, ha1, ha2, ha3, ha4, (OwS.drewN hD nq).rd, (OwS.drewN hI nq).rd, by omega, by omega, below_drewN hbz nq, hh, HI3⟩
                  · have hh0 : ¬ hitAt x y i2 j2 := fun h => h3 h.2.2
                    have hq : ((x.getD i2 BE).toList == (y.getD j2 BE).toList) = false := by rw [str_beq]; simpa using h3
                    have T6 := HT.out.below hbz3
                    have e1 := T6.slot (i := i2) (by omega) trivial
                    have e2 := T6.slot (i := i2 + 1) (by omega) trivial
                    have e3 := T6.at_ (i := i2 + 1) (j := j2) (by omega) trivial (by omega)
                    have e4 := T6.at_ (i := i2) (j := j2 + 1) (by omega) trivial (by omega)
                    have p5 : (i2 : Int) + 1 < (N : Int) := by omega
                    have p6 : (i2 : Int) < (N : Int) := by omega
                    have p7 : (j2 : Int) + 1 < (M : Int) := by omega
                    have p8 : (j2 : Int) < (M : Int) := by omega
                    have p9 : (0 : Int) ≤ (i2 : Int) + 1 := by omega
                    have p10 : (0 : Int) ≤ (j2 : Int) + 1 := by omega
                    clear T6 h3
                    by_cases hl : LT x y i2 (j2 + 1) ≤ LT x y (i2 + 1) j2
                    · have dl : decide (LT x y i2 (j2 + 1) ≤ LT x y (i2 + 1) j2) = true := by simpa using hl
                      have HI4 : Hid (Inv x y ⟨E1, D ++ [x.getD i2 BE], I, []⟩ (i2 + 1) j2) := Lib.hid (by
                        have := HI3.out.del (by rw [hlx.out]; exact h1) (Or.inr ⟨hh0, hl⟩)
                        rwa [stp2] at this)
                      replace hh0 := Lib.hid hh0
                      have q1 : IntKind.i64.wrap ((i2 : Int) + 1) = (i2 : Int) + 1 := IntWalk.i64_in _ (by omega)
                      have q2 : IntKind.i64.wrap ((j2 : Int) + 1) = (j2 : Int) + 1 := IntWalk.i64_in _ (by omega)
                      have q3 : ((i2 : Int) + 1).toNat = i2 + 1 := by omega
                      have q4 : ((j2 : Int) + 1).toNat = j2 + 1 := by omega
                      clear hl
                      generalize x.getD i2 BE = xk at *
                      generalize y.getD j2 BE = yk at *
                      go_wp2_with fail
                      go_quiet (fail)
                      go_wp2_with fail
                      obtain ⟨m1, rfl⟩ : ∃ q, q = nq := ⟨_, rfl⟩
                      go_quiet (fail)
                      have hD2 := OwS.drewN hD (m1 + nq)
                      have hI2 := OwS.alloc (OwS.drewN hI (m1 + nq)) (.cells #[.string xk] 9)
                      have hb2 := below_drewN hbz (m1 + nq)
                      go_wp2_with (first | (at_builtin; go_must (refine wpList_append_r _ rfl (.tmp 142) (.tmp 147) 30 rfl 1 16 w6.heap.size 9 i0 (.string ByteArray.empty) RS.stay (by decide) Tryd.underlying30 hinf hz0 hz1 hz2 rfl (by omega) Ad nd cd D rfl (OwS.alloc hD2 _) _ 1 1 rfl [xk] [.string xk] (Reads.lit (cs := #[.string xk]) rfl) (Fits.one rfl rfl) rfl ?_ ?_ ?_ ?_ ?_; (focus (simp [Value.oneCell'])); (focus (unfold maxLen; omega)); (focus omega); (focus (rw [size_alloc_]; exact Nat.le_succ_of_le hsz6)); intro A7 c7 w7 ho7 hg7; (have hb7 : Below w6.heap.size w6 w7 := (hb2.alloc hsz6 _).trans hg7.b))))
                      go_roundw
                      case rel => exact ⟨i2 + 1, j2, A7, nd + 1, c7, Ai, ni, ci, _, _, by go_num, rfl, rfl, rfl, by omega, by omega, by omega, by omega, ho7, OwS.other hI2 hg7 HNE.out.symm, Lib.hid ((HNE.out.symm.grow hg7 hI2).symm), by omega, by omega, hb7, HI4⟩
                      case measure => (simp [intOf]; try omega)
                    · have dl : decide (LT x y i2 (j2 + 1) ≤ LT x y (i2 + 1) j2) = false := by simpa using hl
                      have HI4 : Hid (Inv x y ⟨E1, D, I ++ [y.getD j2 BE], []⟩ i2 (j2 + 1)) := Lib.hid (by
                        have := HI3.out.ins (by rw [hly.out]; exact h2) (Or.inr ⟨hh0, hl⟩)
                        rwa [stp3] at this)
                      replace hh0 := Lib.hid hh0
                      have q1 : IntKind.i64.wrap ((i2 : Int) + 1) = (i2 : Int) + 1 := IntWalk.i64_in _ (by omega)
                      have q2 : IntKind.i64.wrap ((j2 : Int) + 1) = (j2 : Int) + 1 := IntWalk.i64_in _ (by omega)
                      have q3 : ((i2 : Int) + 1).toNat = i2 + 1 := by omega
                      have q4 : ((j2 : Int) + 1).toNat = j2 + 1 := by omega
                      clear hl
                      generalize x.getD i2 BE = xk at *
                      generalize y.getD j2 BE = yk at *
                      go_wp2_with fail
                      go_quiet (fail)
                      go_wp2_with fail
                      obtain ⟨m1, rfl⟩ : ∃ q, q = nq := ⟨_, rfl⟩
                      go_quiet (fail)
                      have hI2 := OwS.drewN hI (m1 + nq)
                      have hD2 := OwS.alloc (OwS.drewN hD (m1 + nq)) (.cells #[.string yk] 9)
                      have hb2 := below_drewN hbz (m1 + nq)
                      go_wp2_with (first | (at_builtin; go_must (refine wpList_append_r _ rfl (.tmp 151) (.tmp 156) 30 rfl 1 16 w6.heap.size 9 i0 (.string ByteArray.empty) RS.stay (by decide) Tryd.underlying30 hinf hz0 hz1 hz2 rfl (by omega) Ai ni ci I rfl (OwS.alloc hI2 _) _ 1 1 rfl [yk] [.string yk] (Reads.lit (cs := #[.string yk]) rfl) (Fits.one rfl rfl) rfl ?_ ?_ ?_ ?_ ?_; (focus (simp [Value.oneCell'])); (focus (unfold maxLen; omega)); (focus omega); (focus (rw [size_alloc_]; exact Nat.le_succ_of_le hsz6)); intro A7 c7 w7 ho7 hg7; (have hb7 : Below w6.heap.size w6 w7 := (hb2.alloc hsz6 _).trans hg7.b))))
                      go_roundw
                      case rel => exact ⟨i2, j2 + 1, Ad, nd, cd, A7, ni + 1, c7, _, _, rfl, by go_num, rfl, rfl, by omega, by omega, by omega, by omega, OwS.other hD2 hg7 HNE.out, ho7, Lib.hid (HNE.out.grow hg7 hD2), by omega, by omega, hb7, HI4⟩
                      case measure => (simp [intOf]; try omega)
                · obtain ⟨bx, ox, rfl, hbx, hcx⟩ := RdS.opened HX.out (by omega)
                  have cx := (hbz3.cell (p := ⟨bx, ox + i2, none⟩) hbx).trans (hcx i2 h1)
                  clear hcx
                  have p1 : (i2 : Int) < (n : Int) := by omega
                  have p2 : (0 : Int) ≤ (i2 : Int) := by omega
                  have d1 : decide ((i2 : Int) < (n : Int)) = true := by simpa using h1
                  have d2 : decide (i2 < n) = true := by simpa using h1
                  have d5 : ((i2 : Int) == (n : Int)) = false := by rw [beq_eq_false_iff_ne]; omega
                  have d6 : (i2 == n) = false := by rw [beq_eq_false_iff_ne]; omega
                  obtain rfl : j2 = n2 := by omega
                  have d3 : decide ((j2 : Int) < (j2 : Int)) = false := by simp
                  have d7 : ((j2 : Int) == (j2 : Int)) = true := by simp
                  have HI4 : Hid (Inv x y ⟨E1, D ++ [x.getD i2 BE], I, []⟩ (i2 + 1) j2) := Lib.hid (by
                    have := HI3.out.del (by rw [hlx.out]; exact h1) (Or.inl (by rw [hly.out]; exact Nat.le_refl _))
                    rwa [stp2] at this)
                  generalize x.getD i2 BE = xk at *
                  go_wp2_with fail
                  go_quiet (fail)
                  go_wp2_with fail
                  obtain ⟨m1, rfl⟩ : ∃ q, q = nq := ⟨_, rfl⟩
                  go_quiet (fail)
                  have hD2 := OwS.drewN hD (m1 + nq)
                  have hI2 := OwS.alloc (OwS.drewN hI (m1 + nq)) (.cells #[.string xk] 9)
                  have hb2 := below_drewN hbz (m1 + nq)
                  go_wp2_with (first | (at_builtin; go_must (refine wpList_append_r _ rfl (.tmp 142) (.tmp 147) 30 rfl 1 16 w6.heap.size 9 i0 (.string ByteArray.empty) RS.stay (by decide) Tryd.underlying30 hinf hz0 hz1 hz2 rfl (by omega) Ad nd cd D rfl (OwS.alloc hD2 _) _ 1 1 rfl [xk] [.string xk] (Reads.lit (cs := #[.string xk]) rfl) (Fits.one rfl rfl) rfl ?_ ?_ ?_ ?_ ?_; (focus (simp [Value.oneCell'])); (focus (unfold maxLen; omega)); (focus omega); (focus (rw [size_alloc_]; exact Nat.le_succ_of_le hsz6)); intro A7 c7 w7 ho7 hg7; (have hb7 : Below w6.heap.size w6 w7 := (hb2.alloc hsz6 _).trans hg7.b))))
                  go_roundw
                  case rel => exact ⟨i2 + 1, j2, A7, nd + 1, c7, Ai, ni, ci, _, _, by go_num, rfl, rfl, rfl, by omega, by omega, by omega, by omega, ho7, OwS.other hI2 hg7 HNE.out.symm, Lib.hid ((HNE.out.symm.grow hg7 hI2).symm), by omega, by omega, hb7, HI4⟩
                  case measure => (simp [intOf]; try omega)
              · by_cases h2 : j2 < n2
                · obtain ⟨by_, oy, rfl, hby_, hcy⟩ := RdS.opened HY.out (by omega)
                  have cy := (hbz3.cell (p := ⟨by_, oy + j2, none⟩) hby_).trans (hcy j2 h2)
                  clear hcy
                  have p3 : (j2 : Int) < (n2 : Int) := by omega
                  have p4 : (0 : Int) ≤ (j2 : Int) := by omega
                  have d3 : decide ((j2 : Int) < (n2 : Int)) = true := by simpa using h2
                  have d4 : decide (j2 < n2) = true := by simpa using h2
                  have d7 : ((j2 : Int) == (n2 : Int)) = false := by rw [beq_eq_false_iff_ne]; omega
                  have d8 : (j2 == n2) = false := by rw [beq_eq_false_iff_ne]; omega
                  obtain rfl : i2 = n := by omega
                  have d1 : decide ((i2 : Int) < (i2 : Int)) = false := by simp
                  have d5 : ((i2 : Int) == (i2 : Int)) = true := by simp
                  have HI4 : Hid (Inv x y ⟨E1, D, I ++ [y.getD j2 BE], []⟩ i2 (j2 + 1)) := Lib.hid (by
                    have := HI3.out.ins (by rw [hly.out]; exact h2) (Or.inl (by rw [hlx.out]; exact Nat.le_refl _))
                    rwa [stp3] at this)
                  generalize y.getD j2 BE = yk at *
                  go_wp2_with fail
                  go_quiet (fail)
                  go_wp2_with fail
                  obtain ⟨m1, rfl⟩ : ∃ q, q = nq := ⟨_, rfl⟩
                  go_quiet (fail)
                  have hI2 := OwS.drewN hI (m1 + nq)
                  have hD2 := OwS.alloc (OwS.drewN hD (m1 + nq)) (.cells #[.string yk] 9)
                  have hb2 := below_drewN hbz (m1 + nq)
                  go_wp2_with (first | (at_builtin; go_must (refine wpList_append_r _ rfl (.tmp 151) (.tmp 156) 30 rfl 1 16 w6.heap.size 9 i0 (.string ByteArray.empty) RS.stay (by decide) Tryd.underlying30 hinf hz0 hz1 hz2 rfl (by omega) Ai ni ci I rfl (OwS.alloc hI2 _) _ 1 1 rfl [yk] [.string yk] (Reads.lit (cs := #[.string yk]) rfl) (Fits.one rfl rfl) rfl ?_ ?_ ?_ ?_ ?_; (focus (simp [Value.oneCell'])); (focus (unfold maxLen; omega)); (focus omega); (focus (rw [size_alloc_]; exact Nat.le_succ_of_le hsz6)); intro A7 c7 w7 ho7 hg7; (have hb7 : Below w6.heap.size w6 w7 := (hb2.alloc hsz6 _).trans hg7.b))))
                  go_roundw
                  case rel => exact ⟨i2, j2 + 1, Ad, nd, cd, A7, ni + 1, c7, _, _, rfl, by go_num, rfl, rfl, by omega, by omega, by omega, by omega, OwS.other hD2 hg7 HNE.out, ho7, Lib.hid (HNE.out.grow hg7 hD2), by omega, by omega, hb7, HI4⟩
                  case measure => (simp [intOf]; try omega)
                · have hh : Hid (hitAt x y i2 j2 ∨ (n ≤ i2 ∧ n2 ≤ j2)) := Lib.hid (Or.inr ⟨by omega, by omega⟩)
                  have d1 : decide ((i2 : Int) < (n : Int)) = false := by simpa using h1
                  have d2 : decide (i2 < n) = false := by simpa using h1
                  have d3 : decide ((j2 : Int) < (n2 : Int)) = false := by simpa using h2
                  have d4 : decide (j2 < n2) = false := by simpa using h2
                  go_wp2_with fail
                  go_quiet (fail)
                  go_wp2_with fail
                  go_meet
                  exact ⟨i2, j2, Ad, nd, cd, Ai, ni, ci, D, I, rfl, rfl, rfl, rfl, ha1, ha2, ha3, ha4, (OwS.drewN hD nq).rd, (OwS.drewN hI nq).rd, by omega, by omega, below_drewN hbz nq, hh, HI3⟩
          case rest =>
            obtain ⟨i2, j2, Ad, nd, cd, Ai, ni, ci, D, I, rfl, rfl, rfl, rfl, ha1, ha2, ha3, ha4, hD, hI, hnd, hni, hbz, HH, HI3⟩ := hcut
            have hE7 := HE6.out.below (REX.stay NoX) hbz
            have HPUT := Lib.hid (rput_any A3 n3 c3 (EI E1) 2 Ad nd cd D wc hE7 hD (by omega) (by omega))
            have HI0 := Lib.hid hI
            have HL6 := Lib.hid hE7.len
            clear hE7 hD hI HI2
            go_wp2_with fail
            go_at_call 36
            refine HPUT.out.mono ?_
            rintro e w8 ⟨A8, n8, c8, rfl, hE8, hb8⟩
            rw [EIp2] at hE8
            have hn8 : n8 ≤ n3 + 1 := by
              have := EI_put_len E1 2 D
              have := hE8.len
              have := HL6.out
              omega
            have HPU2 := Lib.hid (rput_any A8 n8 c8 (EI (E1 ++ put1 2 D)) 3 Ai ni ci I w8 hE8 (HI0.out.below RS.stay hb8) (by omega) (by omega))
            have HL8 := Lib.hid hE8.len
            clear hE8 HPUT
            go_wp2_with fail
            go_at_call 36
            refine HPU2.out.mono ?_
            rintro e w9 ⟨A9, n9, c9, rfl, hE9, hb9⟩
            rw [EIp3] at hE9
            have hn9 : n9 ≤ n8 + 1 := by
              have := EI_put_len (E1 ++ put1 2 D) 3 I
              have := hE9.len
              have := HL8.out
              omega
            have HI5 : Hid (Inv x y ⟨E1 ++ put1 2 D ++ put1 3 I, [], [], []⟩ i2 j2) := Lib.hid (HI3.out.changed (by rw [hlx.out, hly.out]; exact HH.out))
            have hgo : i + j < i2 + j2 := by
              rcases Nat.lt_or_ge (i + j) (i2 + j2) with h | h
              · exact h
              · exfalso
                obtain rfl : i1 = i := by omega
                obtain rfl : j1 = j := by omega
                obtain rfl : i2 = i1 := by omega
                obtain rfl : j2 = j1 := by omega
                rcases HH.out with h1 | h1
                · exact HN.out h1
                · omega
            have hb39 : Below w3.heap.size w3 w9 := below_call (below_call (below_call hb36 hbz) hb8) hb9
            clear HPU2 HI3 HN HH HE6
            go_wp2_with fail
            go_roundw
            case rel => exact ⟨A9, n9, c9, _, i2, j2, by omega, by omega, rfl, rfl, rfl, hE9, by omega, hb39, HI5⟩
            case measure => (simp [intOf]; try omega)
      · have hd : decide (i < n ∨ j < n2) = false := by simpa using hend
        have HF : Hid (E = edits x y) := Lib.hid (HI.out.done (by rw [hlx.out]; omega) (by rw [hly.out]; omega))
        go_wp2
        go_ret
        exact ⟨Al, nl, cl, rfl, by rw [← HF.out]; exact hE, below_call hw3 hbw⟩
end Go.Proofs.YtakbpdlfgjfbeaaDoor
