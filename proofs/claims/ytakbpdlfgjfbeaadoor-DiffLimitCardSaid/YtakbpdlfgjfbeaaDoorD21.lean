/- Long texts: Diff replaces them as a whole; the walk of DiffLimit. -/
import Derived.Test.YtakbpdlfgjfbeaaDoorD17
import Derived.Lib.Repeat
namespace Go.Proofs.YtakbpdlfgjfbeaaDoor
open Go.RowKit
set_option linter.unusedSimpArgs false
set_option linter.unusedVariables false

set_option maxRecDepth 100000 in
set_option maxHeartbeats 8000000 in
theorem diff_long (ta tb : ByteArray) (m : Int) (w : World) (hm : w.cell? ⟨0, 0, none⟩ = some (.int .i64 m)) (ha : ta.size ≤ 100000) (hb : tb.size ≤ 100000) (hab : ta ≠ tb) (hl : 1000 < (LN ta).length) :
    Calls Tryd.prog 14 #[.string ta, .string tb] w (RRead w (EI (put1 2 (LN ta) ++ put1 3 (LN tb)))) := by
  obtain ⟨x, hx⟩ : ∃ x, LN ta = x := ⟨_, rfl⟩
  obtain ⟨y, hy⟩ : ∃ y, LN tb = y := ⟨_, rfl⟩
  obtain ⟨n, hn⟩ : ∃ n, x.length = n := ⟨_, rfl⟩
  obtain ⟨n2, hn2⟩ : ∃ n, y.length = n := ⟨_, rfl⟩
  have hn1 : (n : Int) ≤ 100000 := by have := LN_length ta; rw [hx, hn] at this; omega
  have hm1 : (n2 : Int) ≤ 100000 := by have := LN_length tb; rw [hy, hn2] at this; omega
  have h00 : 0 < w.heap.size := World.block_lt_of_cell? w _ hm
  have hq : (ta.toList == tb.toList) = false := by rw [str_beq]; simpa using hab
  have hd1 : decide ((1000 : Int) < (n : Int)) = true := decide_eq_true (by rw [hx, hn] at hl; omega)
  have hd2 : decide (1000 < n) = true := decide_eq_true (by rw [hx, hn] at hl; omega)
  have HLA := Lib.hid fun W hW => dlines_n ta n x m hx hn (by omega) W hW
  have HLB := Lib.hid fun W hW => dlines_n tb n2 y m hy hn2 (by omega) W hW
  have HM := Lib.hid hm
  have EP := Lib.hid (EIp2 [] x)
  have EP2 := Lib.hid (EIp3 (put1 2 x) y)
  rw [hx, hy]
  clear hx hy ha hb hn hn2 hm hab hl
  go_enter Tryd.func14, Tryd.ntmps14
  go_wp2_with fail
  go_at_call 16
  refine (HLA.out _ HM.out).mono ?_
  rintro e w1 ⟨A1, c1, rfl, hx1, hty1, hb1⟩
  go_wp2_with fail
  go_at_call 16
  refine (HLB.out _ ((hb1.cell h00).trans HM.out)).mono ?_
  rintro e w2 ⟨A2, c2, rfl, hy2, hty2, hb2⟩
  have hb02 := below_call hb1 hb2
  have hal : Below w2.heap.size w2 (w2.alloc (.cells #[.slice none 0 0, .slice none 0 0, .slice none 0 0, .slice none 0 0] 57)) := (Below.refl _ _).alloc (Nat.le_refl _) _
  have HAD := Lib.hid (add_any w2.heap.size 2 A1 n c1 x none 0 0 [] (.slice none 0 0) (.slice none 0 0) (.slice none 0 0) NoX w2.heap.size (w2.alloc (.cells #[.slice none 0 0, .slice none 0 0, .slice none 0 0, .slice none 0 0] 57)) (heap_alloc_new w2 _) (OwR.nil _ _ _ _ _) ((hx1.below RS.stay hb2).below RS.stay hal) ((hty1.below hb2).below hal) (fun _ _ h => h) (Nat.le_refl _) (by omega) (by omega))
  have HY := Lib.hid hy2
  have HTY := Lib.hid hty2
  clear hx1 hy2 hty1 hty2 hb1 hb2
  go_wp2_with fail
  go_at_call 32
  refine HAD.out.mono ?_
  rintro e w3 ⟨Ae, ne, ce, rfl, hh, ho, hk, hb3⟩
  have hb23 := hal.trans hb3
  have hne : ne ≤ 1 := by
    have h1 := ho.len
    rw [h1]
    unfold putI
    split <;> simp
  have HAD2 := Lib.hid (add_any w2.heap.size 3 A2 n2 c2 y Ae ne ce ([] ++ putI 2 x) (.slice none 0 0) (.slice none 0 0) (.slice none 0 0) NoX w2.heap.size w3 hh ho (HY.out.below RS.stay hb23) (HTY.out.below hb23) (fun _ _ h => h) (Nat.le_refl _) (by omega) (by omega))
  clear hh ho hk HAD hb3
  go_wp2_with fail
  go_at_call 32
  refine HAD2.out.mono ?_
  rintro e w4 ⟨Af, nf, cf, rfl, hh, ho, hk, hb4⟩
  have kc0 := Blk.cell hh 0
  have kf := Blk.frozen hh
  clear hh HAD2 hal
  go_wp2_with fail
  go_ret
  refine ⟨Af, nf, cf, rfl, ?_, hb02.trans ((hb23.trans hb4).mono hb02.size)⟩
  have e1 := EP.out
  have e2 := EP2.out
  rw [show EI [] = [] from rfl, show ([] : List (Nat × List ByteArray)) ++ put1 2 x = put1 2 x from List.nil_append _] at e1
  rw [← e2, ← e1]
  exact OwE.rd ho

theorem and7 (x : Int) : bits .and .i64 x 7 = x % 8 := by
  have e : (BitVec.ofInt 64 (7 : Int)).toNat = 7 := by decide
  show IntKind.i64.wrap ((BitVec.ofInt 64 x &&& BitVec.ofInt 64 7).toNat : Int) = _
  rw [BitVec.toNat_and, e, BitVec.toNat_ofInt, show (7 : Nat) = 2 ^ 3 - 1 from rfl, Nat.and_two_pow_sub_one_eq_mod, IntKind.wrap_i64]
  omega
theorem lnl_rep : ∀ c, lnl (Lib.repeatL [97, 10] c) = List.replicate c [97, 10]
  | 0 => rfl
  | c + 1 => by
    rw [Lib.repeatL, List.replicate_succ, ← lnl_rep c]
    rfl
/-- c lines "a" -/
def repA (c : Nat) : ByteArray := ⟨(Lib.repeatL [97, 10] c).toArray⟩
theorem LN_rep (c : Nat) : LN (repA c) = List.replicate c ka := by
  unfold LN repA
  rw [List.toList_toArray, lnl_rep, List.map_replicate]
  rfl
theorem rep_size (c : Nat) : (repA c).size = c * 2 := by
  show (Lib.repeatL [97, 10] c).toArray.size = _
  rw [List.size_toArray, Lib.repeatL_length]; rfl
theorem LN_ka : LN ⟨#[97, 10]⟩ = [ka] := rfl

set_option maxRecDepth 100000 in
set_option maxHeartbeats 8000000 in
theorem limit_law (n : Int) (m : Int) (w : World) (hm : w.cell? ⟨0, 0, none⟩ = some (.int .i64 m)) :
    Calls Tryd.prog 10 #[.int .i64 n] w fun e w' => e = .returned (.bool true) ∧ Below w.heap.size w w' := by
  have h00 : 0 < w.heap.size := World.block_lt_of_cell? w _ hm
  have HK := Lib.hid (knownOk m)
  have HM := Lib.hid hm
  obtain ⟨j, hj, hj8⟩ : ∃ j : Nat, bits .and .i64 n 7 = (j : Int) ∧ (j : Int) ≤ 7 := ⟨(n % 8).toNat, by rw [and7]; omega, by omega⟩
  obtain ⟨c, hc1, hc2⟩ : ∃ c : Nat, (c : Int) = 1001 + j ∧ 1000 < c := ⟨1001 + j, by omega, by omega⟩
  have hR : ∀ W, Calls Tryd.prog 29 #[.string ⟨#[97, 10]⟩, .int .i64 (1001 + (j : Int))] W fun e w' => e = .returned (.string (repA c)) ∧ Below W.heap.size W w' := fun W => by
    have := Tryd.strings_Repeat_main ⟨#[97, 10]⟩ c W (by omega) (by omega) (by show 2 * c ≤ _; omega) (by decide)
    rw [hc1] at this
    exact this
  have HR := Lib.hid hR
  have hlen : (LN (repA c)).length = c := by rw [LN_rep]; simp
  have hne : repA c ≠ ⟨#[97, 10]⟩ := fun e => by
    have h1 := rep_size c
    rw [e] at h1
    have h2 : (⟨#[97, 10]⟩ : ByteArray).size = 2 := rfl
    omega
  have HL := Lib.hid fun W hW => diff_long (repA c) ⟨#[97, 10]⟩ m W hW (by rw [rep_size]; omega) (by decide) hne (by rw [hlen]; exact hc2)
  have HS := Lib.hid fun W hW => diff_same (repA c) m W hW (by rw [rep_size]; omega)
  have e1 : EI (put1 2 (LN (repA c)) ++ put1 3 (LN ⟨#[97, 10]⟩)) = [(2, LN (repA c)), (3, [ka])] := by
    rw [LN_ka]
    have : LN (repA c) ≠ [] := fun e => by rw [e] at hlen; simp at hlen; omega
    simp [put1, this, EI]
  have e2 : EI (put1 1 (LN (repA c))) = [(1, LN (repA c))] := by
    have : LN (repA c) ≠ [] := fun e => by rw [e] at hlen; simp at hlen; omega
    simp [put1, this, EI]
  rw [e1] at HL
  rw [e2] at HS
  have HX := Lib.hid hlen
  have hcost : costL [(2, LN (repA c)), (3, [ka])] = c + 1 := by simp [costL, costE, hlen]
  have hsm : Small [(2, LN (repA c)), (3, [ka])] 100000 := by
    intro e he
    simp at he
    rcases he with rfl | rfl
    · show (LN (repA c)).length ≤ 100000; omega
    · simp
  have HC := Lib.hid hcost
  have HSM := Lib.hid hsm
  clear hm hR hlen hne e1 e2 hcost hsm
  generalize LN (repA c) = X at *
  generalize repA c = S at *
  have HC1 := Lib.hid hc1
  have g1 : (c : Int) ≤ 1008 := by omega
  have hx1 : ((c : Int) == 1001 + (j : Int)) = true := by rw [beq_iff_eq]; exact hc1
  have hx2 : (((c + 1 : Nat) : Int) == 1002 + (j : Int)) = true := by rw [beq_iff_eq]; omega
  have hx3 : ((c : Int) + 1 == 1002 + (j : Int)) = true := by rw [beq_iff_eq]; omega
  clear hc1
  go_enter Tryd.func10, Tryd.ntmps10
  go_wp2_with fail
  go_at_call 29
  refine (HR.out w).mono ?_
  rintro e w1 ⟨rfl, hb1⟩
  go_wp2_with fail
  go_at_call 14
  refine (HL.out w1 ((hb1.cell h00).trans HM.out)).mono ?_
  rintro e w2 ⟨A2, n2, c2, rfl, hE2, hb2⟩
  have hb02 := below_call hb1 hb2
  have H2 := Lib.hid hE2
  have hl2 : n2 = 2 := hE2.len
  subst hl2
  clear hE2 hb2 hb1
  go_wp2_with fail
  go_at_call 14
  refine (HS.out w2 ((hb02.cell h00).trans HM.out)).mono ?_
  rintro e w3 ⟨A3, n3, c3, rfl, hE3, hb3⟩
  have hb03 := below_call hb02 hb3
  have H3 := Lib.hid hE3
  have hl3 : n3 = 1 := hE3.len
  subst hl3
  obtain ⟨b1, o1, k1, L1, B1, m1, d1, rfl, hb1', hE1, hk1, hs1, hr1⟩ := RdE.at_ (RdE.below H2.out hb3) (show 0 < 2 by omega)
  obtain ⟨b2, o2, k2, L2, B2, m2, d2, hA2, hb2', hE2, hk2, hs2, hr2⟩ := RdE.at_ (RdE.below H2.out hb3) (show 1 < 2 by omega)
  obtain ⟨b3, o3, k3, L3, B3, m3, d3, rfl, hb3', hE3', hk3, hs3, hr3⟩ := RdE.at_ H3.out (show 0 < 1 by omega)
  injection hE1 with hE1
  injection hE1 with q1 q2
  injection hE2 with hE2
  injection hE2 with q3 q4
  injection hE3' with hE3'
  injection hE3' with q5 q6
  subst q1 q2 q3 q4 q5 q6
  injection hA2 with hA2
  injection hA2 with q7 q8
  subst q7 q8
  have hm1 : m1 = c := hr1.len.trans HX.out
  subst hm1
  have HC9 := Lib.hid (cost_any (some ⟨b1, o1, none⟩) 2 c2 _ w3 (RdE.below H2.out hb3) (by omega) HSM.out)
  rw [HC.out] at HC9
  clear hr1 hr2 hr3 hs2 hs3 hE3 hb3 hb02
  simp only [Nat.zero_mul, Nat.add_zero, Nat.one_mul] at hk1 hs1 hk2 hk3
  go_wp2_with fail
  go_at_call 17
  refine HC9.out.mono ?_
  rintro e w4 ⟨rfl, hb4⟩
  have hb04 := below_call hb03 hb4
  clear hb4 hb03 HC9
  go_wp2_with fail
  go_at_call 11
  refine (HK.out w4 ((hb04.cell h00).trans HM.out)).mono ?_
  rintro e w5 ⟨rfl, hb5⟩
  go_wp2_with fail
  go_ret
  exact ⟨rfl, below_call hb04 hb5⟩
end Go.Proofs.YtakbpdlfgjfbeaaDoor
