/- The walk of the reader's change. Printed by gen_c24.py -/
import Derived.Test.YtbeijpajodgpeaaDoorM2
import Derived.Test.YtbeijpajodgpeaaDoorC2
import Derived.Deep.CutBlock
namespace Go.Proofs.YtbeijpajodgpeaaDoor
open Go.RowKit
set_option linter.unusedSimpArgs false
set_option linter.unusedVariables false

theorem ten_kq {y : World} {q t : Nat} {z0 z1 z2 z3 z4 z5 z6 z7 z8 z9 : Value} (h : y.heap[q]? = some (.cells #[z0, z1, z2, z3, z4, z5, z6, z7, z8, z9] t (0, 0))) (v0 v1 v2 v3 v4 v5 v6 v7 v8 v9 : Value) : ((((((((((y.setCell ⟨q, 0, none⟩ v0).setCell ⟨q, 1, none⟩ v1).setCell ⟨q, 2, none⟩ v2).setCell ⟨q, 3, none⟩ v3).setCell ⟨q, 4, none⟩ v4).setCell ⟨q, 5, none⟩ v5).setCell ⟨q, 6, none⟩ v6).setCell ⟨q, 7, none⟩ v7).setCell ⟨q, 8, none⟩ v8).setCell ⟨q, 9, none⟩ v9).heap[q]? = some (.cells #[v0, v1, v2, v3, v4, v5, v6, v7, v8, v9] t (0, 0)) := by
  have k0 : (y.setCell ⟨q, 0, none⟩ v0).heap[q]? = some (.cells #[v0, z1, z2, z3, z4, z5, z6, z7, z8, z9] t (0, 0)) := heap_set_near _ _ _ _ _ _ h
  have k1 : ((y.setCell ⟨q, 0, none⟩ v0).setCell ⟨q, 1, none⟩ v1).heap[q]? = some (.cells #[v0, v1, z2, z3, z4, z5, z6, z7, z8, z9] t (0, 0)) := heap_set_near _ _ _ _ _ _ k0
  have k2 : (((y.setCell ⟨q, 0, none⟩ v0).setCell ⟨q, 1, none⟩ v1).setCell ⟨q, 2, none⟩ v2).heap[q]? = some (.cells #[v0, v1, v2, z3, z4, z5, z6, z7, z8, z9] t (0, 0)) := heap_set_near _ _ _ _ _ _ k1
  have k3 : ((((y.setCell ⟨q, 0, none⟩ v0).setCell ⟨q, 1, none⟩ v1).setCell ⟨q, 2, none⟩ v2).setCell ⟨q, 3, none⟩ v3).heap[q]? = some (.cells #[v0, v1, v2, v3, z4, z5, z6, z7, z8, z9] t (0, 0)) := heap_set_near _ _ _ _ _ _ k2
  have k4 : (((((y.setCell ⟨q, 0, none⟩ v0).setCell ⟨q, 1, none⟩ v1).setCell ⟨q, 2, none⟩ v2).setCell ⟨q, 3, none⟩ v3).setCell ⟨q, 4, none⟩ v4).heap[q]? = some (.cells #[v0, v1, v2, v3, v4, z5, z6, z7, z8, z9] t (0, 0)) := heap_set_near _ _ _ _ _ _ k3
  have k5 : ((((((y.setCell ⟨q, 0, none⟩ v0).setCell ⟨q, 1, none⟩ v1).setCell ⟨q, 2, none⟩ v2).setCell ⟨q, 3, none⟩ v3).setCell ⟨q, 4, none⟩ v4).setCell ⟨q, 5, none⟩ v5).heap[q]? = some (.cells #[v0, v1, v2, v3, v4, v5, z6, z7, z8, z9] t (0, 0)) := heap_set_near _ _ _ _ _ _ k4
  have k6 : (((((((y.setCell ⟨q, 0, none⟩ v0).setCell ⟨q, 1, none⟩ v1).setCell ⟨q, 2, none⟩ v2).setCell ⟨q, 3, none⟩ v3).setCell ⟨q, 4, none⟩ v4).setCell ⟨q, 5, none⟩ v5).setCell ⟨q, 6, none⟩ v6).heap[q]? = some (.cells #[v0, v1, v2, v3, v4, v5, v6, z7, z8, z9] t (0, 0)) := heap_set_near _ _ _ _ _ _ k5
  have k7 : ((((((((y.setCell ⟨q, 0, none⟩ v0).setCell ⟨q, 1, none⟩ v1).setCell ⟨q, 2, none⟩ v2).setCell ⟨q, 3, none⟩ v3).setCell ⟨q, 4, none⟩ v4).setCell ⟨q, 5, none⟩ v5).setCell ⟨q, 6, none⟩ v6).setCell ⟨q, 7, none⟩ v7).heap[q]? = some (.cells #[v0, v1, v2, v3, v4, v5, v6, v7, z8, z9] t (0, 0)) := heap_set_near _ _ _ _ _ _ k6
  have k8 : (((((((((y.setCell ⟨q, 0, none⟩ v0).setCell ⟨q, 1, none⟩ v1).setCell ⟨q, 2, none⟩ v2).setCell ⟨q, 3, none⟩ v3).setCell ⟨q, 4, none⟩ v4).setCell ⟨q, 5, none⟩ v5).setCell ⟨q, 6, none⟩ v6).setCell ⟨q, 7, none⟩ v7).setCell ⟨q, 8, none⟩ v8).heap[q]? = some (.cells #[v0, v1, v2, v3, v4, v5, v6, v7, v8, z9] t (0, 0)) := heap_set_near _ _ _ _ _ _ k7
  have k9 : ((((((((((y.setCell ⟨q, 0, none⟩ v0).setCell ⟨q, 1, none⟩ v1).setCell ⟨q, 2, none⟩ v2).setCell ⟨q, 3, none⟩ v3).setCell ⟨q, 4, none⟩ v4).setCell ⟨q, 5, none⟩ v5).setCell ⟨q, 6, none⟩ v6).setCell ⟨q, 7, none⟩ v7).setCell ⟨q, 8, none⟩ v8).setCell ⟨q, 9, none⟩ v9).heap[q]? = some (.cells #[v0, v1, v2, v3, v4, v5, v6, v7, v8, v9] t (0, 0)) := heap_set_near _ _ _ _ _ _ k8
  exact k9
theorem Sta.same {t : Nat} {w0 W : World} {g M : Nat} {s : Option (List UInt8)} (h : Sta t w0 W g M s) : Sta t w0 (W.setCell ⟨g, 1, none⟩ (.bool s.isNone)) g M s := by
  obtain ⟨bad, l, ⟨h1, h2, A, n, c, h3, h4, h5⟩, h6, h7⟩ := h
  refine ⟨s.isNone, l, ⟨h1.setCell h2 _, h2, A, n, c, heap_set_near _ _ _ _ _ _ h3, h4, h5⟩, fun r hr => ⟨by rw [hr]; rfl, (h6 r hr).2⟩, fun hn => by rw [hn]; rfl⟩
/-- what a change's reading leaves -/
def RCh (t : Nat) (w0 W : World) (g M : Nat) (s : Option (List UInt8)) (e : Ending) (W' : World) : Prop := ∃ (c : Cg) (A : Option Addr) (n cp : Nat), e = .returned (cval c A n cp) ∧ RdR RV 6 W' A n cp c.hs ∧ TyB W' 67 A ∧ CgWf c ∧ Sta t w0 W' g M ((s.bind pCg).map (·.2)) ∧ (∀ q, s.bind pCg = some q → c = q.1) ∧ W.grownBy W' (some g)
theorem nx_def {α : Type} (s : Option (List UInt8)) (p : List UInt8 → Option (α × List UInt8)) : (s.bind p).map (·.2) = nx s p := rfl

set_option maxRecDepth 100000 in
set_option maxHeartbeats 16000000 in
theorem rdcg_any (w0 : World) (g M : Nat) (s : Option (List UInt8)) (W : World) (h : Sta 83 w0 W g M s) (hM : M ≤ maxLen) :
    Calls Tryd.prog 43 #[.pointer (some ⟨g, 0, none⟩)] W (RCh 83 w0 W g M s) := by
  have hgl := h.lt
  have hgb := h.base.1
  have HM := Lib.hid hM
  clear hM
  have kr0 : (W.alloc (.cells #[.int .i64 0, .string ⟨#[]⟩, .string ⟨#[]⟩, .int .i64 0, .string ⟨#[]⟩, .int .i64 0, .string ⟨#[]⟩, .string ⟨#[]⟩, .int .i64 0, .slice none 0 0] 31)).heap[W.heap.size]? = some (.cells #[.int .i64 0, .string ⟨#[]⟩, .string ⟨#[]⟩, .int .i64 0, .string ⟨#[]⟩, .int .i64 0, .string ⟨#[]⟩, .string ⟨#[]⟩, .int .i64 0, .slice none 0 0] 31 (0, 0)) := heap_new rfl
  have hS0 := h.call ((Below.refl _ _).alloc (Nat.le_refl _) (.cells #[.int .i64 0, .string ⟨#[]⟩, .string ⟨#[]⟩, .int .i64 0, .string ⟨#[]⟩, .int .i64 0, .string ⟨#[]⟩, .string ⟨#[]⟩, .int .i64 0, .slice none 0 0] 31) : Below W.heap.size W (W.alloc (.cells #[.int .i64 0, .string ⟨#[]⟩, .string ⟨#[]⟩, .int .i64 0, .string ⟨#[]⟩, .int .i64 0, .string ⟨#[]⟩, .string ⟨#[]⟩, .int .i64 0, .slice none 0 0] 31)))
  have hg0 : W.grownBy (W.alloc (.cells #[.int .i64 0, .string ⟨#[]⟩, .string ⟨#[]⟩, .int .i64 0, .string ⟨#[]⟩, .int .i64 0, .string ⟨#[]⟩, .string ⟨#[]⟩, .int .i64 0, .slice none 0 0] 31)) (some g) := World.grownBy_alloc W _ _
  clear h
  go_enter Tryd.func43, Tryd.ntmps43
  go_wp2_with fail
  generalize W.alloc (.cells #[.int .i64 0, .string ⟨#[]⟩, .string ⟨#[]⟩, .int .i64 0, .string ⟨#[]⟩, .int .i64 0, .string ⟨#[]⟩, .string ⟨#[]⟩, .int .i64 0, .slice none 0 0] 31) = y0 at *
  go_at_call 42
  refine (numS w0 g M s y0 hS0).mono ?_
  rintro e u1 ⟨v, he, hv, hS1, hp1, hq1⟩
  obtain rfl : e = .returned (.int .i64 (v : Int)) := he
  have kr1 := heap_grown hq1 (by omega) kr0
  have hg1 := hg0.trans hq1
  have HP1 := Lib.hid (pInt_ok hp1)
  rw [nx_def, ← pInt_nx] at hS1
  clear hS0 kr0 hg0 hq1 hp1
  go_upto_region 2 with fail
  have hal : Below u1.heap.size u1 (u1.alloc (.cells #[.int .i64 (v : Int), .string ⟨#[]⟩, .string ⟨#[]⟩, .int .i64 0, .string ⟨#[]⟩, .int .i64 0, .string ⟨#[]⟩, .string ⟨#[]⟩, .int .i64 0, .slice none 0 0] 31)) := (Below.refl _ _).alloc (Nat.le_refl _) _
  have kb1 : (u1.alloc (.cells #[.int .i64 (v : Int), .string ⟨#[]⟩, .string ⟨#[]⟩, .int .i64 0, .string ⟨#[]⟩, .int .i64 0, .string ⟨#[]⟩, .string ⟨#[]⟩, .int .i64 0, .slice none 0 0] 31)).heap[u1.heap.size]? = some (.cells #[.int .i64 (v : Int), .string ⟨#[]⟩, .string ⟨#[]⟩, .int .i64 0, .string ⟨#[]⟩, .int .i64 0, .string ⟨#[]⟩, .string ⟨#[]⟩, .int .i64 0, .slice none 0 0] 31 (0, 0)) := heap_new rfl
  have kr2 := heap_call hal kr1
  have hS2 := hS1.call hal
  have hg2 := hg1.trans (World.grownBy_alloc u1 (.cells #[.int .i64 (v : Int), .string ⟨#[]⟩, .string ⟨#[]⟩, .int .i64 0, .string ⟨#[]⟩, .int .i64 0, .string ⟨#[]⟩, .string ⟨#[]⟩, .int .i64 0, .slice none 0 0] 31) (some g))
  have hgc := hS1.lt
  have hrc := Blk.lt kr1
  clear hal kr1 hS1 hg1
  generalize u1.alloc (.cells #[.int .i64 (v : Int), .string ⟨#[]⟩, .string ⟨#[]⟩, .int .i64 0, .string ⟨#[]⟩, .int .i64 0, .string ⟨#[]⟩, .string ⟨#[]⟩, .int .i64 0, .slice none 0 0] 31) = y1 at *
  generalize u1.heap.size = bc at *
  have kc1 := Blk.cell kb1
  go_wp2_with fail
  go_at_call 30
  refine (uses_any (v : Int) y1).mono ?_
  rintro e u2 ⟨rfl, hb2⟩
  have kb2 := heap_call hb2 kb1
  have kr3 := heap_call hb2 kr2
  have hS3 := hS2.call hb2
  have hg3 := grown_own hg2 (hb2.mono hg2.size)
  clear kc1 kb1 kr2 hS2 hg2 hb2
  unfold usesF
  go_upto_region 3 with fail
  have hal : Below u2.heap.size u2 (u2.alloc (.cells #[.bool (fU (v : Int)), .bool (fN (v : Int)), .bool (fT (v : Int)), .bool (fO (v : Int)), .bool (fN (v : Int)), .bool (fK (v : Int)), .bool (fH (v : Int))] 72)) := (Below.refl _ _).alloc (Nat.le_refl _) _
  have kf4 : (u2.alloc (.cells #[.bool (fU (v : Int)), .bool (fN (v : Int)), .bool (fT (v : Int)), .bool (fO (v : Int)), .bool (fN (v : Int)), .bool (fK (v : Int)), .bool (fH (v : Int))] 72)).heap[u2.heap.size]? = some (.cells #[.bool (fU (v : Int)), .bool (fN (v : Int)), .bool (fT (v : Int)), .bool (fO (v : Int)), .bool (fN (v : Int)), .bool (fK (v : Int)), .bool (fH (v : Int))] 72 (0, 0)) := heap_new rfl
  have kb4 := heap_call hal kb2
  have kr4 := heap_call hal kr3
  have hS4 := hS3.call hal
  have hg4 := hg3.trans (World.grownBy_alloc u2 (.cells #[.bool (fU (v : Int)), .bool (fN (v : Int)), .bool (fT (v : Int)), .bool (fO (v : Int)), .bool (fN (v : Int)), .bool (fK (v : Int)), .bool (fH (v : Int))] 72) (some g))
  have hcf := Blk.lt kb2
  clear hal kb2 kr3 hS3 hg3
  generalize u2.alloc (.cells #[.bool (fU (v : Int)), .bool (fN (v : Int)), .bool (fT (v : Int)), .bool (fO (v : Int)), .bool (fN (v : Int)), .bool (fK (v : Int)), .bool (fH (v : Int))] 72) = y2 at *
  generalize u2.heap.size = bf at *
  obtain ⟨Ar, nr, cr, kg⟩ := hS4.cells
  have kcg := Blk.cell kg
  have kfg := Blk.frozen kg
  have hn1 : g ≠ bc := by omega
  have hn2 : g ≠ bf := by omega
  have hn3 : g ≠ W.heap.size := by omega
  have hn4 : bc ≠ bf := by omega
  have hn5 : bc ≠ W.heap.size := by omega
  have hn6 : bf ≠ W.heap.size := by omega
  have hw1 : Hid (Lit.wf (.int .i64 (v : Int)) = true) := Lib.hid (WalkArith.wf_i64 (by omega))
  have hw0 : Hid (Lit.wf (.int .i64 0) = true) := Lib.hid (by decide)
  have hbs : w0.heap.size ≤ bc ∧ w0.heap.size ≤ W.heap.size ∧ W.heap.size ≤ bc := by omega
  obtain ⟨bb, hbb⟩ : ∃ b, b = (nx s pInt).isNone := ⟨_, rfl⟩
  rw [← hbb] at kcg
  have HBB := Lib.hid hbb
  clear hbb
  cases hV : fV (v : Int) with
  | false =>
    have HF := Lib.hid (pCg_no HP1.out hV)
    have hno : ¬ (1 ≤ (v : Int) ∧ (v : Int) ≤ 10) := of_decide_eq_false hV
    have hU := usesF_no hno
    unfold usesF at hU
    injection hU with hU
    simp only [Array.mk.injEq, List.cons.injEq, Value.bool.injEq, and_true] at hU
    obtain ⟨e1, e2, e3, e4, e5, e6, e7⟩ := hU
    rw [e1, e2, e3, e4, e6, e7] at kf4
    have hk4 := Blk.cell kf4
    have HSB := Lib.hid hS4.bad
    have HGB := Lib.hid (hg4.trans (grownR_set y2 g 1 (.bool true)))
    have kb5 : (y2.setCell ⟨g, 1, none⟩ (.bool true)).heap[bc]? = _ := (heap_set_far _ _ _ _ _ hn1.symm).trans kb4
    have kr5 : (y2.setCell ⟨g, 1, none⟩ (.bool true)).heap[W.heap.size]? = _ := (heap_set_far _ _ _ _ _ hn3.symm).trans kr4
    clear hV hno
    cases bb
    all_goals
      go_upto_region 18 with fail
      generalize y2.setCell ⟨g, 1, none⟩ (.bool true) = y3 at *
      have kcb := Blk.cell kb5
      have kfr := Blk.frozen kr5
      have kcr0 := Blk.cell kr5
      have kz9 := ten_kq kr5 (.int .i64 (v : Int)) (.string ⟨#[]⟩) (.string ⟨#[]⟩) (.int .i64 0) (.string ⟨#[]⟩) (.int .i64 0) (.string ⟨#[]⟩) (.string ⟨#[]⟩) (.int .i64 0) (.slice none 0 0)
      have kcz := Blk.cell kz9
      have HSF := Lib.hid ((((((((((HSB.out.set (i := 0) hn3 hbs.2.1 (.int .i64 (v : Int))).set (i := 1) hn3 hbs.2.1 (.string ⟨#[]⟩)).set (i := 2) hn3 hbs.2.1 (.string ⟨#[]⟩)).set (i := 3) hn3 hbs.2.1 (.int .i64 0)).set (i := 4) hn3 hbs.2.1 (.string ⟨#[]⟩)).set (i := 5) hn3 hbs.2.1 (.int .i64 0)).set (i := 6) hn3 hbs.2.1 (.string ⟨#[]⟩)).set (i := 7) hn3 hbs.2.1 (.string ⟨#[]⟩)).set (i := 8) hn3 hbs.2.1 (.int .i64 0)).set (i := 9) hn3 hbs.2.1 (.slice none 0 0))
      have HGF := Lib.hid (grown_setN (i := 9) (grown_setN (i := 8) (grown_setN (i := 7) (grown_setN (i := 6) (grown_setN (i := 5) (grown_setN (i := 4) (grown_setN (i := 3) (grown_setN (i := 2) (grown_setN (i := 1) (grown_setN (i := 0) HGB.out (Nat.le_refl _) (.int .i64 (v : Int))) (Nat.le_refl _) (.string ⟨#[]⟩)) (Nat.le_refl _) (.string ⟨#[]⟩)) (Nat.le_refl _) (.int .i64 0)) (Nat.le_refl _) (.string ⟨#[]⟩)) (Nat.le_refl _) (.int .i64 0)) (Nat.le_refl _) (.string ⟨#[]⟩)) (Nat.le_refl _) (.string ⟨#[]⟩)) (Nat.le_refl _) (.int .i64 0)) (Nat.le_refl _) (.slice none 0 0))
      clear kz9
      go_wp2_with fail
      refine bodyPost_ret (v := .agg #[.int .i64 (v : Int), .string ⟨#[]⟩, .string ⟨#[]⟩, .int .i64 0, .string ⟨#[]⟩, .int .i64 0, .string ⟨#[]⟩, .string ⟨#[]⟩, .int .i64 0, .slice none 0 0]) ?_ rfl ⟨⟨(v : Int), ⟨#[]⟩, ⟨#[]⟩, 0, ⟨#[]⟩, 0, ⟨#[]⟩, ⟨#[]⟩, 0, []⟩, none, 0, 0, rfl, RdR.nil _ _ _, fun ad h => (by cases h), ⟨hw1.out, Nat.zero_le _, Nat.zero_le _, hw0.out, Nat.zero_le _, hw0.out, Nat.zero_le _, Nat.zero_le _, hw0.out, fun r hr => (by cases hr)⟩, ?_, fun q hq => ?_, HGF.out⟩
      · simp [results, Tryd.results43, go_sem, kcz]
      · rw [HF.out]; exact HSF.out
      · rw [HF.out] at hq; cases hq
  | true =>
    have hkn : 1 ≤ (v : Int) ∧ (v : Int) ≤ 10 := of_decide_eq_true hV
    have HVV := Lib.hid hV
    have HSA := hS4.same
    rw [← HBB.out] at HSA
    have HGA := hg4.trans (grownR_set y2 g 1 (.bool bb))
    have kb5 : (y2.setCell ⟨g, 1, none⟩ (.bool bb)).heap[bc]? = _ := (heap_set_far _ _ _ _ _ hn1.symm).trans kb4
    have kr5 : (y2.setCell ⟨g, 1, none⟩ (.bool bb)).heap[W.heap.size]? = _ := (heap_set_far _ _ _ _ _ hn3.symm).trans kr4
    have kf5 : (y2.setCell ⟨g, 1, none⟩ (.bool bb)).heap[bf]? = _ := (heap_set_far _ _ _ _ _ hn2.symm).trans kf4
    have hkf := Blk.cell kf4
    clear hV hS4 hg4 kb4 kr4
    have HKK : Hid ((v : Int) = 1 ∨ ((v : Int) = 2 ∨ (v : Int) = 3 ∨ (v : Int) = 7 ∨ (v : Int) = 8) ∨ (v : Int) = 4 ∨ (v : Int) = 5 ∨ (v : Int) = 6 ∨ (v : Int) = 9 ∨ (v : Int) = 10) := Lib.hid (by omega)
    clear hkn
    rcases HKK.out with hkd | hkd | hkd | hkd | hkd | hkd | hkd
    · have hU : fU (v : Int) = true := by rw [hkd]; rfl
      have hN : fN (v : Int) = true := by rw [hkd]; rfl
      have hT : fT (v : Int) = true := by rw [hkd]; rfl
      have hO : fO (v : Int) = false := by rw [hkd]; rfl
      have hK : fK (v : Int) = false := by rw [hkd]; rfl
      have hH : fH (v : Int) = false := by rw [hkd]; rfl
      clear hkd
      rw [hU, hN, hT, hO, hK, hH] at kf5
      have kk := Blk.cell kf4
      rw [hU, hN, hT, hO, hK, hH] at kk
      have HFL := Lib.hid (And.intro hU (And.intro hN (And.intro hT (And.intro hO (And.intro hK hH)))))
      clear hU hN hT hO hK hH hkf kf4 kg
      cases bb with
      | false =>
        go_upto_region 4 with fail
        generalize y2.setCell ⟨g, 1, none⟩ (.bool false) = y3 at *
        have kk := kf5
        have kq3 := Blk.cell kf5
        go_wp2_with fail
        go_at_call 61
        refine (txtS w0 g M _ y3 HSA).mono ?_
        rintro e u4 ⟨xU, he, hxU, hSu, hp, hq⟩
        obtain rfl : e = .returned (.string xU) := he
        have HPU := Lib.hid hp
        rw [nx_def] at hSu
        have ku := heap_grown hq hn1.symm kb5
        have kru := heap_grown hq hn3.symm kr5
        have kfu := heap_grown hq hn2.symm kf5
        have hcu := Blk.cell ku
        have hfu := Blk.frozen ku
        have kw1 : (u4.setCell ⟨bc, 1, none⟩ (.string xU)).heap[bc]? = some (.cells #[.int .i64 (v : Int), .string xU, .string ⟨#[]⟩, .int .i64 0, .string ⟨#[]⟩, .int .i64 0, .string ⟨#[]⟩, .string ⟨#[]⟩, .int .i64 0, .slice none 0 0] 31 (0, 0)) := heap_set_near _ _ _ _ _ _ ku
        have kbU : (u4.setCell ⟨bc, 1, none⟩ (.string xU)).heap[bc]? = _ := kw1
        have krU : (u4.setCell ⟨bc, 1, none⟩ (.string xU)).heap[W.heap.size]? = _ := ((heap_set_far _ _ _ _ _ hn5.symm).trans kru)
        have kfU : (u4.setCell ⟨bc, 1, none⟩ (.string xU)).heap[bf]? = _ := ((heap_set_far _ _ _ _ _ hn4.symm).trans kfu)
        have hSU := (hSu.set (i := 1) hn1 hbs.1 (.string xU))
        have hGU := (grown_setN (i := 1) (HGA.trans hq) hbs.2.2 (.string xU))
        clear kb5 kr5 kf5 HSA HGA ku kru kfu hq hSu hp kq3 kw1
        go_upto_region 6 with fail
        clear hcu hfu
        generalize (u4.setCell ⟨bc, 1, none⟩ (.string xU)) = y4 at *
        have kq4 := Blk.cell kfU
        go_wp2_with fail
        go_at_call 61
        refine (txtS w0 g M _ y4 hSU).mono ?_
        rintro e u5 ⟨xN, he, hxN, hSu, hp, hq⟩
        obtain rfl : e = .returned (.string xN) := he
        have HPN := Lib.hid hp
        rw [nx_def] at hSu
        have ku := heap_grown hq hn1.symm kbU
        have kru := heap_grown hq hn3.symm krU
        have kfu := heap_grown hq hn2.symm kfU
        have hcu := Blk.cell ku
        have hfu := Blk.frozen ku
        have kw2 : (u5.setCell ⟨bc, 2, none⟩ (.string xN)).heap[bc]? = some (.cells #[.int .i64 (v : Int), .string xU, .string xN, .int .i64 0, .string ⟨#[]⟩, .int .i64 0, .string ⟨#[]⟩, .string ⟨#[]⟩, .int .i64 0, .slice none 0 0] 31 (0, 0)) := heap_set_near _ _ _ _ _ _ ku
        have kbN : (u5.setCell ⟨bc, 2, none⟩ (.string xN)).heap[bc]? = _ := kw2
        have krN : (u5.setCell ⟨bc, 2, none⟩ (.string xN)).heap[W.heap.size]? = _ := ((heap_set_far _ _ _ _ _ hn5.symm).trans kru)
        have kfN : (u5.setCell ⟨bc, 2, none⟩ (.string xN)).heap[bf]? = _ := ((heap_set_far _ _ _ _ _ hn4.symm).trans kfu)
        have hSN := (hSu.set (i := 2) hn1 hbs.1 (.string xN))
        have hGN := (grown_setN (i := 2) (hGU.trans hq) hbs.2.2 (.string xN))
        clear kbU krU kfU hSU hGU ku kru kfu hq hSu hp kq4 kw2
        go_upto_region 8 with fail
        clear hcu hfu
        generalize (u5.setCell ⟨bc, 2, none⟩ (.string xN)) = y5 at *
        have kq5 := Blk.cell kfN
        go_wp2_with fail
        go_at_call 62
        refine (ttlS w0 g M _ y5 hSN).mono ?_
        rintro e u6 ⟨xT, he, hxT, hSu, hp, hq⟩
        obtain rfl : e = .returned (.agg #[.int .i64 xT.1, .string xT.2]) := he
        have HPT := Lib.hid hp
        rw [nx_def] at hSu
        have ku := heap_grown hq hn1.symm kbN
        have kru := heap_grown hq hn3.symm krN
        have kfu := heap_grown hq hn2.symm kfN
        have hcu := Blk.cell ku
        have hfu := Blk.frozen ku
        have kw3 : (u6.setCell ⟨bc, 3, none⟩ (.int .i64 xT.1)).heap[bc]? = some (.cells #[.int .i64 (v : Int), .string xU, .string xN, .int .i64 xT.1, .string ⟨#[]⟩, .int .i64 0, .string ⟨#[]⟩, .string ⟨#[]⟩, .int .i64 0, .slice none 0 0] 31 (0, 0)) := heap_set_near _ _ _ _ _ _ ku
        have kw4 : ((u6.setCell ⟨bc, 3, none⟩ (.int .i64 xT.1)).setCell ⟨bc, 4, none⟩ (.string xT.2)).heap[bc]? = some (.cells #[.int .i64 (v : Int), .string xU, .string xN, .int .i64 xT.1, .string xT.2, .int .i64 0, .string ⟨#[]⟩, .string ⟨#[]⟩, .int .i64 0, .slice none 0 0] 31 (0, 0)) := heap_set_near _ _ _ _ _ _ kw3
        have kbT : ((u6.setCell ⟨bc, 3, none⟩ (.int .i64 xT.1)).setCell ⟨bc, 4, none⟩ (.string xT.2)).heap[bc]? = _ := kw4
        have krT : ((u6.setCell ⟨bc, 3, none⟩ (.int .i64 xT.1)).setCell ⟨bc, 4, none⟩ (.string xT.2)).heap[W.heap.size]? = _ := ((heap_set_far _ _ _ _ _ hn5.symm).trans ((heap_set_far _ _ _ _ _ hn5.symm).trans kru))
        have kfT : ((u6.setCell ⟨bc, 3, none⟩ (.int .i64 xT.1)).setCell ⟨bc, 4, none⟩ (.string xT.2)).heap[bf]? = _ := ((heap_set_far _ _ _ _ _ hn4.symm).trans ((heap_set_far _ _ _ _ _ hn4.symm).trans kfu))
        have hST := ((hSu.set (i := 3) hn1 hbs.1 (.int .i64 xT.1)).set (i := 4) hn1 hbs.1 (.string xT.2))
        have hGT := (grown_setN (i := 4) (grown_setN (i := 3) (hGN.trans hq) hbs.2.2 (.int .i64 xT.1)) hbs.2.2 (.string xT.2))
        clear kbN krN kfN hSN hGN ku kru kfu hq hSu hp kq5 kw3 kw4
        go_upto_region 10 with fail
        clear hcu hfu
        generalize ((u6.setCell ⟨bc, 3, none⟩ (.int .i64 xT.1)).setCell ⟨bc, 4, none⟩ (.string xT.2)) = y6 at *
        have kq6 := Blk.cell kfT
        go_wp2_with fail
        go_at_call 61
        refine (txtS w0 g M _ y6 hST).mono ?_
        rintro e u7 ⟨xX, he, hxX, hSu, hp, hq⟩
        obtain rfl : e = .returned (.string xX) := he
        have HPX := Lib.hid hp
        rw [nx_def] at hSu
        have ku := heap_grown hq hn1.symm kbT
        have kru := heap_grown hq hn3.symm krT
        have kfu := heap_grown hq hn2.symm kfT
        have hcu := Blk.cell ku
        have hfu := Blk.frozen ku
        have kw7 : (u7.setCell ⟨bc, 7, none⟩ (.string xX)).heap[bc]? = some (.cells #[.int .i64 (v : Int), .string xU, .string xN, .int .i64 xT.1, .string xT.2, .int .i64 0, .string ⟨#[]⟩, .string xX, .int .i64 0, .slice none 0 0] 31 (0, 0)) := heap_set_near _ _ _ _ _ _ ku
        have kbX : (u7.setCell ⟨bc, 7, none⟩ (.string xX)).heap[bc]? = _ := kw7
        have krX : (u7.setCell ⟨bc, 7, none⟩ (.string xX)).heap[W.heap.size]? = _ := ((heap_set_far _ _ _ _ _ hn5.symm).trans kru)
        have kfX : (u7.setCell ⟨bc, 7, none⟩ (.string xX)).heap[bf]? = _ := ((heap_set_far _ _ _ _ _ hn4.symm).trans kfu)
        have hSX := (hSu.set (i := 7) hn1 hbs.1 (.string xX))
        have hGX := (grown_setN (i := 7) (hGT.trans hq) hbs.2.2 (.string xX))
        clear kbT krT kfT hST hGT ku kru kfu hq hSu hp kq6 kw7
        go_upto_region 14 with fail
        clear hcu hfu
        generalize (u7.setCell ⟨bc, 7, none⟩ (.string xX)) = y7 at *
        have kq7 := Blk.cell kfX
        obtain ⟨f1, f2, f3, f4, f5, f6⟩ := HFL.out
        have HC : Hid (s.bind pCg = ((nx (nx (nx (nx (nx s pInt) pTxt) pTxt) pTtl) pTxt)).map fun l => ((⟨(v : Int), xU, xN, xT.1, xT.2, 0, ⟨#[]⟩, xX, 0, []⟩ : Cg), l)) := Lib.hid (by
          have hc := pCg_chain (s := s) (k := (v : Int)) (u := xU) (nt := xN) (tx := xX) (t := xT) (o := (0, ⟨#[]⟩)) (n := 0) (hs := []) HP1.out HVV.out (by simp only [f1, f2, f3, f4, f5, f6, nx_on, nx_off]; exact ok_on HPU.out) (by simp only [f1, f2, f3, f4, f5, f6, nx_on, nx_off]; exact ok_on HPN.out) (by simp only [f1, f2, f3, f4, f5, f6, nx_on, nx_off]; exact ok_on HPT.out) (by simp only [f1, f2, f3, f4, f5, f6, nx_on, nx_off]; exact ok_off) (by simp only [f1, f2, f3, f4, f5, f6, nx_on, nx_off]; exact ok_on HPX.out) (by simp only [f1, f2, f3, f4, f5, f6, nx_on, nx_off]; exact ok_off) (by simp only [f1, f2, f3, f4, f5, f6, nx_on, nx_off]; exact ok_off)
          simp only [f1, f2, f3, f4, f5, f6, nx_on, nx_off] at hc
          exact hc)
        clear f1 f2 f3 f4 f5 f6
        have HSE := Lib.hid hSX
        have HGE := Lib.hid hGX
        clear hSX hGX
        have kcb := Blk.cell kbX
        have kfr := Blk.frozen krX
        have kcr0 := Blk.cell krX
        have kz9 := ten_kq krX (.int .i64 (v : Int)) (.string xU) (.string xN) (.int .i64 xT.1) (.string xT.2) (.int .i64 0) (.string ⟨#[]⟩) (.string xX) (.int .i64 0) (.slice none 0 0)
        have kcz := Blk.cell kz9
        have HSF := Lib.hid ((((((((((HSE.out.set (i := 0) hn3 hbs.2.1 (.int .i64 (v : Int))).set (i := 1) hn3 hbs.2.1 (.string xU)).set (i := 2) hn3 hbs.2.1 (.string xN)).set (i := 3) hn3 hbs.2.1 (.int .i64 xT.1)).set (i := 4) hn3 hbs.2.1 (.string xT.2)).set (i := 5) hn3 hbs.2.1 (.int .i64 0)).set (i := 6) hn3 hbs.2.1 (.string ⟨#[]⟩)).set (i := 7) hn3 hbs.2.1 (.string xX)).set (i := 8) hn3 hbs.2.1 (.int .i64 0)).set (i := 9) hn3 hbs.2.1 (.slice none 0 0))
        have HGF := Lib.hid (grown_setN (i := 9) (grown_setN (i := 8) (grown_setN (i := 7) (grown_setN (i := 6) (grown_setN (i := 5) (grown_setN (i := 4) (grown_setN (i := 3) (grown_setN (i := 2) (grown_setN (i := 1) (grown_setN (i := 0) HGE.out (Nat.le_refl _) (.int .i64 (v : Int))) (Nat.le_refl _) (.string xU)) (Nat.le_refl _) (.string xN)) (Nat.le_refl _) (.int .i64 xT.1)) (Nat.le_refl _) (.string xT.2)) (Nat.le_refl _) (.int .i64 0)) (Nat.le_refl _) (.string ⟨#[]⟩)) (Nat.le_refl _) (.string xX)) (Nat.le_refl _) (.int .i64 0)) (Nat.le_refl _) (.slice none 0 0))
        clear kz9
        go_wp2_with fail
        have hwfT : Hid (Lit.wf (.int .i64 xT.1) = true) := Lib.hid (WalkArith.wf_i64 (by omega))
        refine bodyPost_ret (v := .agg #[.int .i64 (v : Int), .string xU, .string xN, .int .i64 xT.1, .string xT.2, .int .i64 0, .string ⟨#[]⟩, .string xX, .int .i64 0, .slice none 0 0]) ?_ rfl ⟨⟨(v : Int), xU, xN, xT.1, xT.2, 0, ⟨#[]⟩, xX, 0, []⟩, none, 0, 0, rfl, RdR.nil _ _ _, fun ad h => (by cases h), ⟨hw1.out, Nat.le_trans hxU HM.out, Nat.le_trans hxN HM.out, hwfT.out, Nat.le_trans hxT.2.2 HM.out, hw0.out, Nat.zero_le _, Nat.le_trans hxX HM.out, hw0.out, fun r hr => (by cases hr)⟩, ?_, fun q hq => ?_, HGF.out⟩
        · simp [results, Tryd.results43, go_sem, kcz]
        · rw [HC.out, Option.map_map]
          have e : ((fun x : Cg × List UInt8 => x.2) ∘ fun l => ((⟨(v : Int), xU, xN, xT.1, xT.2, 0, ⟨#[]⟩, xX, 0, []⟩ : Cg), l)) = id := rfl
          rw [e, Option.map_id]
          exact HSF.out
        · rw [HC.out] at hq
          cases hst : (nx (nx (nx (nx (nx s pInt) pTxt) pTxt) pTtl) pTxt) with
          | none => rw [hst] at hq; cases hq
          | some l => rw [hst] at hq; injection hq with hq; rw [← hq]
      | true =>
        go_upto_region 4 with fail
        generalize y2.setCell ⟨g, 1, none⟩ (.bool true) = y3 at *
        have kk := kf5
        have kq3 := Blk.cell kf5
        go_wp2_with fail
        go_at_call 61
        refine (txtS w0 g M _ y3 HSA).mono ?_
        rintro e u4 ⟨xU, he, hxU, hSu, hp, hq⟩
        obtain rfl : e = .returned (.string xU) := he
        have HPU := Lib.hid hp
        rw [nx_def] at hSu
        have ku := heap_grown hq hn1.symm kb5
        have kru := heap_grown hq hn3.symm kr5
        have kfu := heap_grown hq hn2.symm kf5
        have hcu := Blk.cell ku
        have hfu := Blk.frozen ku
        have kw1 : (u4.setCell ⟨bc, 1, none⟩ (.string xU)).heap[bc]? = some (.cells #[.int .i64 (v : Int), .string xU, .string ⟨#[]⟩, .int .i64 0, .string ⟨#[]⟩, .int .i64 0, .string ⟨#[]⟩, .string ⟨#[]⟩, .int .i64 0, .slice none 0 0] 31 (0, 0)) := heap_set_near _ _ _ _ _ _ ku
        have kbU : (u4.setCell ⟨bc, 1, none⟩ (.string xU)).heap[bc]? = _ := kw1
        have krU : (u4.setCell ⟨bc, 1, none⟩ (.string xU)).heap[W.heap.size]? = _ := ((heap_set_far _ _ _ _ _ hn5.symm).trans kru)
        have kfU : (u4.setCell ⟨bc, 1, none⟩ (.string xU)).heap[bf]? = _ := ((heap_set_far _ _ _ _ _ hn4.symm).trans kfu)
        have hSU := (hSu.set (i := 1) hn1 hbs.1 (.string xU))
        have hGU := (grown_setN (i := 1) (HGA.trans hq) hbs.2.2 (.string xU))
        clear kb5 kr5 kf5 HSA HGA ku kru kfu hq hSu hp kq3 kw1
        go_upto_region 6 with fail
        clear hcu hfu
        generalize (u4.setCell ⟨bc, 1, none⟩ (.string xU)) = y4 at *
        have kq4 := Blk.cell kfU
        go_wp2_with fail
        go_at_call 61
        refine (txtS w0 g M _ y4 hSU).mono ?_
        rintro e u5 ⟨xN, he, hxN, hSu, hp, hq⟩
        obtain rfl : e = .returned (.string xN) := he
        have HPN := Lib.hid hp
        rw [nx_def] at hSu
        have ku := heap_grown hq hn1.symm kbU
        have kru := heap_grown hq hn3.symm krU
        have kfu := heap_grown hq hn2.symm kfU
        have hcu := Blk.cell ku
        have hfu := Blk.frozen ku
        have kw2 : (u5.setCell ⟨bc, 2, none⟩ (.string xN)).heap[bc]? = some (.cells #[.int .i64 (v : Int), .string xU, .string xN, .int .i64 0, .string ⟨#[]⟩, .int .i64 0, .string ⟨#[]⟩, .string ⟨#[]⟩, .int .i64 0, .slice none 0 0] 31 (0, 0)) := heap_set_near _ _ _ _ _ _ ku
        have kbN : (u5.setCell ⟨bc, 2, none⟩ (.string xN)).heap[bc]? = _ := kw2
        have krN : (u5.setCell ⟨bc, 2, none⟩ (.string xN)).heap[W.heap.size]? = _ := ((heap_set_far _ _ _ _ _ hn5.symm).trans kru)
        have kfN : (u5.setCell ⟨bc, 2, none⟩ (.string xN)).heap[bf]? = _ := ((heap_set_far _ _ _ _ _ hn4.symm).trans kfu)
        have hSN := (hSu.set (i := 2) hn1 hbs.1 (.string xN))
        have hGN := (grown_setN (i := 2) (hGU.trans hq) hbs.2.2 (.string xN))
        clear kbU krU kfU hSU hGU ku kru kfu hq hSu hp kq4 kw2
        go_upto_region 8 with fail
        clear hcu hfu
        generalize (u5.setCell ⟨bc, 2, none⟩ (.string xN)) = y5 at *
        have kq5 := Blk.cell kfN
        go_wp2_with fail
        go_at_call 62
        refine (ttlS w0 g M _ y5 hSN).mono ?_
        rintro e u6 ⟨xT, he, hxT, hSu, hp, hq⟩
        obtain rfl : e = .returned (.agg #[.int .i64 xT.1, .string xT.2]) := he
        have HPT := Lib.hid hp
        rw [nx_def] at hSu
        have ku := heap_grown hq hn1.symm kbN
        have kru := heap_grown hq hn3.symm krN
        have kfu := heap_grown hq hn2.symm kfN
        have hcu := Blk.cell ku
        have hfu := Blk.frozen ku
        have kw3 : (u6.setCell ⟨bc, 3, none⟩ (.int .i64 xT.1)).heap[bc]? = some (.cells #[.int .i64 (v : Int), .string xU, .string xN, .int .i64 xT.1, .string ⟨#[]⟩, .int .i64 0, .string ⟨#[]⟩, .string ⟨#[]⟩, .int .i64 0, .slice none 0 0] 31 (0, 0)) := heap_set_near _ _ _ _ _ _ ku
        have kw4 : ((u6.setCell ⟨bc, 3, none⟩ (.int .i64 xT.1)).setCell ⟨bc, 4, none⟩ (.string xT.2)).heap[bc]? = some (.cells #[.int .i64 (v : Int), .string xU, .string xN, .int .i64 xT.1, .string xT.2, .int .i64 0, .string ⟨#[]⟩, .string ⟨#[]⟩, .int .i64 0, .slice none 0 0] 31 (0, 0)) := heap_set_near _ _ _ _ _ _ kw3
        have kbT : ((u6.setCell ⟨bc, 3, none⟩ (.int .i64 xT.1)).setCell ⟨bc, 4, none⟩ (.string xT.2)).heap[bc]? = _ := kw4
        have krT : ((u6.setCell ⟨bc, 3, none⟩ (.int .i64 xT.1)).setCell ⟨bc, 4, none⟩ (.string xT.2)).heap[W.heap.size]? = _ := ((heap_set_far _ _ _ _ _ hn5.symm).trans ((heap_set_far _ _ _ _ _ hn5.symm).trans kru))
        have kfT : ((u6.setCell ⟨bc, 3, none⟩ (.int .i64 xT.1)).setCell ⟨bc, 4, none⟩ (.string xT.2)).heap[bf]? = _ := ((heap_set_far _ _ _ _ _ hn4.symm).trans ((heap_set_far _ _ _ _ _ hn4.symm).trans kfu))
        have hST := ((hSu.set (i := 3) hn1 hbs.1 (.int .i64 xT.1)).set (i := 4) hn1 hbs.1 (.string xT.2))
        have hGT := (grown_setN (i := 4) (grown_setN (i := 3) (hGN.trans hq) hbs.2.2 (.int .i64 xT.1)) hbs.2.2 (.string xT.2))
        clear kbN krN kfN hSN hGN ku kru kfu hq hSu hp kq5 kw3 kw4
        go_upto_region 10 with fail
        clear hcu hfu
        generalize ((u6.setCell ⟨bc, 3, none⟩ (.int .i64 xT.1)).setCell ⟨bc, 4, none⟩ (.string xT.2)) = y6 at *
        have kq6 := Blk.cell kfT
        go_wp2_with fail
        go_at_call 61
        refine (txtS w0 g M _ y6 hST).mono ?_
        rintro e u7 ⟨xX, he, hxX, hSu, hp, hq⟩
        obtain rfl : e = .returned (.string xX) := he
        have HPX := Lib.hid hp
        rw [nx_def] at hSu
        have ku := heap_grown hq hn1.symm kbT
        have kru := heap_grown hq hn3.symm krT
        have kfu := heap_grown hq hn2.symm kfT
        have hcu := Blk.cell ku
        have hfu := Blk.frozen ku
        have kw7 : (u7.setCell ⟨bc, 7, none⟩ (.string xX)).heap[bc]? = some (.cells #[.int .i64 (v : Int), .string xU, .string xN, .int .i64 xT.1, .string xT.2, .int .i64 0, .string ⟨#[]⟩, .string xX, .int .i64 0, .slice none 0 0] 31 (0, 0)) := heap_set_near _ _ _ _ _ _ ku
        have kbX : (u7.setCell ⟨bc, 7, none⟩ (.string xX)).heap[bc]? = _ := kw7
        have krX : (u7.setCell ⟨bc, 7, none⟩ (.string xX)).heap[W.heap.size]? = _ := ((heap_set_far _ _ _ _ _ hn5.symm).trans kru)
        have kfX : (u7.setCell ⟨bc, 7, none⟩ (.string xX)).heap[bf]? = _ := ((heap_set_far _ _ _ _ _ hn4.symm).trans kfu)
        have hSX := (hSu.set (i := 7) hn1 hbs.1 (.string xX))
        have hGX := (grown_setN (i := 7) (hGT.trans hq) hbs.2.2 (.string xX))
        clear kbT krT kfT hST hGT ku kru kfu hq hSu hp kq6 kw7
        go_upto_region 14 with fail
        clear hcu hfu
        generalize (u7.setCell ⟨bc, 7, none⟩ (.string xX)) = y7 at *
        have kq7 := Blk.cell kfX
        obtain ⟨f1, f2, f3, f4, f5, f6⟩ := HFL.out
        have HC : Hid (s.bind pCg = ((nx (nx (nx (nx (nx s pInt) pTxt) pTxt) pTtl) pTxt)).map fun l => ((⟨(v : Int), xU, xN, xT.1, xT.2, 0, ⟨#[]⟩, xX, 0, []⟩ : Cg), l)) := Lib.hid (by
          have hc := pCg_chain (s := s) (k := (v : Int)) (u := xU) (nt := xN) (tx := xX) (t := xT) (o := (0, ⟨#[]⟩)) (n := 0) (hs := []) HP1.out HVV.out (by simp only [f1, f2, f3, f4, f5, f6, nx_on, nx_off]; exact ok_on HPU.out) (by simp only [f1, f2, f3, f4, f5, f6, nx_on, nx_off]; exact ok_on HPN.out) (by simp only [f1, f2, f3, f4, f5, f6, nx_on, nx_off]; exact ok_on HPT.out) (by simp only [f1, f2, f3, f4, f5, f6, nx_on, nx_off]; exact ok_off) (by simp only [f1, f2, f3, f4, f5, f6, nx_on, nx_off]; exact ok_on HPX.out) (by simp only [f1, f2, f3, f4, f5, f6, nx_on, nx_off]; exact ok_off) (by simp only [f1, f2, f3, f4, f5, f6, nx_on, nx_off]; exact ok_off)
          simp only [f1, f2, f3, f4, f5, f6, nx_on, nx_off] at hc
          exact hc)
        clear f1 f2 f3 f4 f5 f6
        have HSE := Lib.hid hSX
        have HGE := Lib.hid hGX
        clear hSX hGX
        have kcb := Blk.cell kbX
        have kfr := Blk.frozen krX
        have kcr0 := Blk.cell krX
        have kz9 := ten_kq krX (.int .i64 (v : Int)) (.string xU) (.string xN) (.int .i64 xT.1) (.string xT.2) (.int .i64 0) (.string ⟨#[]⟩) (.string xX) (.int .i64 0) (.slice none 0 0)
        have kcz := Blk.cell kz9
        have HSF := Lib.hid ((((((((((HSE.out.set (i := 0) hn3 hbs.2.1 (.int .i64 (v : Int))).set (i := 1) hn3 hbs.2.1 (.string xU)).set (i := 2) hn3 hbs.2.1 (.string xN)).set (i := 3) hn3 hbs.2.1 (.int .i64 xT.1)).set (i := 4) hn3 hbs.2.1 (.string xT.2)).set (i := 5) hn3 hbs.2.1 (.int .i64 0)).set (i := 6) hn3 hbs.2.1 (.string ⟨#[]⟩)).set (i := 7) hn3 hbs.2.1 (.string xX)).set (i := 8) hn3 hbs.2.1 (.int .i64 0)).set (i := 9) hn3 hbs.2.1 (.slice none 0 0))
        have HGF := Lib.hid (grown_setN (i := 9) (grown_setN (i := 8) (grown_setN (i := 7) (grown_setN (i := 6) (grown_setN (i := 5) (grown_setN (i := 4) (grown_setN (i := 3) (grown_setN (i := 2) (grown_setN (i := 1) (grown_setN (i := 0) HGE.out (Nat.le_refl _) (.int .i64 (v : Int))) (Nat.le_refl _) (.string xU)) (Nat.le_refl _) (.string xN)) (Nat.le_refl _) (.int .i64 xT.1)) (Nat.le_refl _) (.string xT.2)) (Nat.le_refl _) (.int .i64 0)) (Nat.le_refl _) (.string ⟨#[]⟩)) (Nat.le_refl _) (.string xX)) (Nat.le_refl _) (.int .i64 0)) (Nat.le_refl _) (.slice none 0 0))
        clear kz9
        go_wp2_with fail
        have hwfT : Hid (Lit.wf (.int .i64 xT.1) = true) := Lib.hid (WalkArith.wf_i64 (by omega))
        refine bodyPost_ret (v := .agg #[.int .i64 (v : Int), .string xU, .string xN, .int .i64 xT.1, .string xT.2, .int .i64 0, .string ⟨#[]⟩, .string xX, .int .i64 0, .slice none 0 0]) ?_ rfl ⟨⟨(v : Int), xU, xN, xT.1, xT.2, 0, ⟨#[]⟩, xX, 0, []⟩, none, 0, 0, rfl, RdR.nil _ _ _, fun ad h => (by cases h), ⟨hw1.out, Nat.le_trans hxU HM.out, Nat.le_trans hxN HM.out, hwfT.out, Nat.le_trans hxT.2.2 HM.out, hw0.out, Nat.zero_le _, Nat.le_trans hxX HM.out, hw0.out, fun r hr => (by cases hr)⟩, ?_, fun q hq => ?_, HGF.out⟩
        · simp [results, Tryd.results43, go_sem, kcz]
        · rw [HC.out, Option.map_map]
          have e : ((fun x : Cg × List UInt8 => x.2) ∘ fun l => ((⟨(v : Int), xU, xN, xT.1, xT.2, 0, ⟨#[]⟩, xX, 0, []⟩ : Cg), l)) = id := rfl
          rw [e, Option.map_id]
          exact HSF.out
        · rw [HC.out] at hq
          cases hst : (nx (nx (nx (nx (nx s pInt) pTxt) pTxt) pTtl) pTxt) with
          | none => rw [hst] at hq; cases hq
          | some l => rw [hst] at hq; injection hq with hq; rw [← hq]
    · have hU : fU (v : Int) = true := by rcases hkd with e | e | e | e <;> (rw [e]; rfl)
      have hN : fN (v : Int) = false := by rcases hkd with e | e | e | e <;> (rw [e]; rfl)
      have hT : fT (v : Int) = true := by rcases hkd with e | e | e | e <;> (rw [e]; rfl)
      have hO : fO (v : Int) = false := by rcases hkd with e | e | e | e <;> (rw [e]; rfl)
      have hK : fK (v : Int) = false := by rcases hkd with e | e | e | e <;> (rw [e]; rfl)
      have hH : fH (v : Int) = false := by rcases hkd with e | e | e | e <;> (rw [e]; rfl)
      clear hkd
      rw [hU, hN, hT, hO, hK, hH] at kf5
      have kk := Blk.cell kf4
      rw [hU, hN, hT, hO, hK, hH] at kk
      have HFL := Lib.hid (And.intro hU (And.intro hN (And.intro hT (And.intro hO (And.intro hK hH)))))
      clear hU hN hT hO hK hH hkf kf4 kg
      cases bb with
      | false =>
        go_upto_region 4 with fail
        generalize y2.setCell ⟨g, 1, none⟩ (.bool false) = y3 at *
        have kk := kf5
        have kq3 := Blk.cell kf5
        go_wp2_with fail
        go_at_call 61
        refine (txtS w0 g M _ y3 HSA).mono ?_
        rintro e u4 ⟨xU, he, hxU, hSu, hp, hq⟩
        obtain rfl : e = .returned (.string xU) := he
        have HPU := Lib.hid hp
        rw [nx_def] at hSu
        have ku := heap_grown hq hn1.symm kb5
        have kru := heap_grown hq hn3.symm kr5
        have kfu := heap_grown hq hn2.symm kf5
        have hcu := Blk.cell ku
        have hfu := Blk.frozen ku
        have kw1 : (u4.setCell ⟨bc, 1, none⟩ (.string xU)).heap[bc]? = some (.cells #[.int .i64 (v : Int), .string xU, .string ⟨#[]⟩, .int .i64 0, .string ⟨#[]⟩, .int .i64 0, .string ⟨#[]⟩, .string ⟨#[]⟩, .int .i64 0, .slice none 0 0] 31 (0, 0)) := heap_set_near _ _ _ _ _ _ ku
        have kbU : (u4.setCell ⟨bc, 1, none⟩ (.string xU)).heap[bc]? = _ := kw1
        have krU : (u4.setCell ⟨bc, 1, none⟩ (.string xU)).heap[W.heap.size]? = _ := ((heap_set_far _ _ _ _ _ hn5.symm).trans kru)
        have kfU : (u4.setCell ⟨bc, 1, none⟩ (.string xU)).heap[bf]? = _ := ((heap_set_far _ _ _ _ _ hn4.symm).trans kfu)
        have hSU := (hSu.set (i := 1) hn1 hbs.1 (.string xU))
        have hGU := (grown_setN (i := 1) (HGA.trans hq) hbs.2.2 (.string xU))
        clear kb5 kr5 kf5 HSA HGA ku kru kfu hq hSu hp kq3 kw1
        go_upto_region 6 with fail
        clear hcu hfu
        generalize (u4.setCell ⟨bc, 1, none⟩ (.string xU)) = y4 at *
        have kq4 := Blk.cell kfU
        go_wp2_with fail
        go_at_call 62
        refine (ttlS w0 g M _ y4 hSU).mono ?_
        rintro e u5 ⟨xT, he, hxT, hSu, hp, hq⟩
        obtain rfl : e = .returned (.agg #[.int .i64 xT.1, .string xT.2]) := he
        have HPT := Lib.hid hp
        rw [nx_def] at hSu
        have ku := heap_grown hq hn1.symm kbU
        have kru := heap_grown hq hn3.symm krU
        have kfu := heap_grown hq hn2.symm kfU
        have hcu := Blk.cell ku
        have hfu := Blk.frozen ku
        have kw3 : (u5.setCell ⟨bc, 3, none⟩ (.int .i64 xT.1)).heap[bc]? = some (.cells #[.int .i64 (v : Int), .string xU, .string ⟨#[]⟩, .int .i64 xT.1, .string ⟨#[]⟩, .int .i64 0, .string ⟨#[]⟩, .string ⟨#[]⟩, .int .i64 0, .slice none 0 0] 31 (0, 0)) := heap_set_near _ _ _ _ _ _ ku
        have kw4 : ((u5.setCell ⟨bc, 3, none⟩ (.int .i64 xT.1)).setCell ⟨bc, 4, none⟩ (.string xT.2)).heap[bc]? = some (.cells #[.int .i64 (v : Int), .string xU, .string ⟨#[]⟩, .int .i64 xT.1, .string xT.2, .int .i64 0, .string ⟨#[]⟩, .string ⟨#[]⟩, .int .i64 0, .slice none 0 0] 31 (0, 0)) := heap_set_near _ _ _ _ _ _ kw3
        have kbT : ((u5.setCell ⟨bc, 3, none⟩ (.int .i64 xT.1)).setCell ⟨bc, 4, none⟩ (.string xT.2)).heap[bc]? = _ := kw4
        have krT : ((u5.setCell ⟨bc, 3, none⟩ (.int .i64 xT.1)).setCell ⟨bc, 4, none⟩ (.string xT.2)).heap[W.heap.size]? = _ := ((heap_set_far _ _ _ _ _ hn5.symm).trans ((heap_set_far _ _ _ _ _ hn5.symm).trans kru))
        have kfT : ((u5.setCell ⟨bc, 3, none⟩ (.int .i64 xT.1)).setCell ⟨bc, 4, none⟩ (.string xT.2)).heap[bf]? = _ := ((heap_set_far _ _ _ _ _ hn4.symm).trans ((heap_set_far _ _ _ _ _ hn4.symm).trans kfu))
        have hST := ((hSu.set (i := 3) hn1 hbs.1 (.int .i64 xT.1)).set (i := 4) hn1 hbs.1 (.string xT.2))
        have hGT := (grown_setN (i := 4) (grown_setN (i := 3) (hGU.trans hq) hbs.2.2 (.int .i64 xT.1)) hbs.2.2 (.string xT.2))
        clear kbU krU kfU hSU hGU ku kru kfu hq hSu hp kq4 kw3 kw4
        go_upto_region 10 with fail
        clear hcu hfu
        generalize ((u5.setCell ⟨bc, 3, none⟩ (.int .i64 xT.1)).setCell ⟨bc, 4, none⟩ (.string xT.2)) = y5 at *
        have kq5 := Blk.cell kfT
        obtain ⟨f1, f2, f3, f4, f5, f6⟩ := HFL.out
        have HC : Hid (s.bind pCg = ((nx (nx (nx s pInt) pTxt) pTtl)).map fun l => ((⟨(v : Int), xU, ⟨#[]⟩, xT.1, xT.2, 0, ⟨#[]⟩, ⟨#[]⟩, 0, []⟩ : Cg), l)) := Lib.hid (by
          have hc := pCg_chain (s := s) (k := (v : Int)) (u := xU) (nt := ⟨#[]⟩) (tx := ⟨#[]⟩) (t := xT) (o := (0, ⟨#[]⟩)) (n := 0) (hs := []) HP1.out HVV.out (by simp only [f1, f2, f3, f4, f5, f6, nx_on, nx_off]; exact ok_on HPU.out) (by simp only [f1, f2, f3, f4, f5, f6, nx_on, nx_off]; exact ok_off) (by simp only [f1, f2, f3, f4, f5, f6, nx_on, nx_off]; exact ok_on HPT.out) (by simp only [f1, f2, f3, f4, f5, f6, nx_on, nx_off]; exact ok_off) (by simp only [f1, f2, f3, f4, f5, f6, nx_on, nx_off]; exact ok_off) (by simp only [f1, f2, f3, f4, f5, f6, nx_on, nx_off]; exact ok_off) (by simp only [f1, f2, f3, f4, f5, f6, nx_on, nx_off]; exact ok_off)
          simp only [f1, f2, f3, f4, f5, f6, nx_on, nx_off] at hc
          exact hc)
        clear f1 f2 f3 f4 f5 f6
        have HSE := Lib.hid hST
        have HGE := Lib.hid hGT
        clear hST hGT
        have kcb := Blk.cell kbT
        have kfr := Blk.frozen krT
        have kcr0 := Blk.cell krT
        have kz9 := ten_kq krT (.int .i64 (v : Int)) (.string xU) (.string ⟨#[]⟩) (.int .i64 xT.1) (.string xT.2) (.int .i64 0) (.string ⟨#[]⟩) (.string ⟨#[]⟩) (.int .i64 0) (.slice none 0 0)
        have kcz := Blk.cell kz9
        have HSF := Lib.hid ((((((((((HSE.out.set (i := 0) hn3 hbs.2.1 (.int .i64 (v : Int))).set (i := 1) hn3 hbs.2.1 (.string xU)).set (i := 2) hn3 hbs.2.1 (.string ⟨#[]⟩)).set (i := 3) hn3 hbs.2.1 (.int .i64 xT.1)).set (i := 4) hn3 hbs.2.1 (.string xT.2)).set (i := 5) hn3 hbs.2.1 (.int .i64 0)).set (i := 6) hn3 hbs.2.1 (.string ⟨#[]⟩)).set (i := 7) hn3 hbs.2.1 (.string ⟨#[]⟩)).set (i := 8) hn3 hbs.2.1 (.int .i64 0)).set (i := 9) hn3 hbs.2.1 (.slice none 0 0))
        have HGF := Lib.hid (grown_setN (i := 9) (grown_setN (i := 8) (grown_setN (i := 7) (grown_setN (i := 6) (grown_setN (i := 5) (grown_setN (i := 4) (grown_setN (i := 3) (grown_setN (i := 2) (grown_setN (i := 1) (grown_setN (i := 0) HGE.out (Nat.le_refl _) (.int .i64 (v : Int))) (Nat.le_refl _) (.string xU)) (Nat.le_refl _) (.string ⟨#[]⟩)) (Nat.le_refl _) (.int .i64 xT.1)) (Nat.le_refl _) (.string xT.2)) (Nat.le_refl _) (.int .i64 0)) (Nat.le_refl _) (.string ⟨#[]⟩)) (Nat.le_refl _) (.string ⟨#[]⟩)) (Nat.le_refl _) (.int .i64 0)) (Nat.le_refl _) (.slice none 0 0))
        clear kz9
        go_wp2_with fail
        have hwfT : Hid (Lit.wf (.int .i64 xT.1) = true) := Lib.hid (WalkArith.wf_i64 (by omega))
        refine bodyPost_ret (v := .agg #[.int .i64 (v : Int), .string xU, .string ⟨#[]⟩, .int .i64 xT.1, .string xT.2, .int .i64 0, .string ⟨#[]⟩, .string ⟨#[]⟩, .int .i64 0, .slice none 0 0]) ?_ rfl ⟨⟨(v : Int), xU, ⟨#[]⟩, xT.1, xT.2, 0, ⟨#[]⟩, ⟨#[]⟩, 0, []⟩, none, 0, 0, rfl, RdR.nil _ _ _, fun ad h => (by cases h), ⟨hw1.out, Nat.le_trans hxU HM.out, Nat.zero_le _, hwfT.out, Nat.le_trans hxT.2.2 HM.out, hw0.out, Nat.zero_le _, Nat.zero_le _, hw0.out, fun r hr => (by cases hr)⟩, ?_, fun q hq => ?_, HGF.out⟩
        · simp [results, Tryd.results43, go_sem, kcz]
        · rw [HC.out, Option.map_map]
          have e : ((fun x : Cg × List UInt8 => x.2) ∘ fun l => ((⟨(v : Int), xU, ⟨#[]⟩, xT.1, xT.2, 0, ⟨#[]⟩, ⟨#[]⟩, 0, []⟩ : Cg), l)) = id := rfl
          rw [e, Option.map_id]
          exact HSF.out
        · rw [HC.out] at hq
          cases hst : (nx (nx (nx s pInt) pTxt) pTtl) with
          | none => rw [hst] at hq; cases hq
          | some l => rw [hst] at hq; injection hq with hq; rw [← hq]
      | true =>
        go_upto_region 4 with fail
        generalize y2.setCell ⟨g, 1, none⟩ (.bool true) = y3 at *
        have kk := kf5
        have kq3 := Blk.cell kf5
        go_wp2_with fail
        go_at_call 61
        refine (txtS w0 g M _ y3 HSA).mono ?_
        rintro e u4 ⟨xU, he, hxU, hSu, hp, hq⟩
        obtain rfl : e = .returned (.string xU) := he
        have HPU := Lib.hid hp
        rw [nx_def] at hSu
        have ku := heap_grown hq hn1.symm kb5
        have kru := heap_grown hq hn3.symm kr5
        have kfu := heap_grown hq hn2.symm kf5
        have hcu := Blk.cell ku
        have hfu := Blk.frozen ku
        have kw1 : (u4.setCell ⟨bc, 1, none⟩ (.string xU)).heap[bc]? = some (.cells #[.int .i64 (v : Int), .string xU, .string ⟨#[]⟩, .int .i64 0, .string ⟨#[]⟩, .int .i64 0, .string ⟨#[]⟩, .string ⟨#[]⟩, .int .i64 0, .slice none 0 0] 31 (0, 0)) := heap_set_near _ _ _ _ _ _ ku
        have kbU : (u4.setCell ⟨bc, 1, none⟩ (.string xU)).heap[bc]? = _ := kw1
        have krU : (u4.setCell ⟨bc, 1, none⟩ (.string xU)).heap[W.heap.size]? = _ := ((heap_set_far _ _ _ _ _ hn5.symm).trans kru)
        have kfU : (u4.setCell ⟨bc, 1, none⟩ (.string xU)).heap[bf]? = _ := ((heap_set_far _ _ _ _ _ hn4.symm).trans kfu)
        have hSU := (hSu.set (i := 1) hn1 hbs.1 (.string xU))
        have hGU := (grown_setN (i := 1) (HGA.trans hq) hbs.2.2 (.string xU))
        clear kb5 kr5 kf5 HSA HGA ku kru kfu hq hSu hp kq3 kw1
        go_upto_region 6 with fail
        clear hcu hfu
        generalize (u4.setCell ⟨bc, 1, none⟩ (.string xU)) = y4 at *
        have kq4 := Blk.cell kfU
        go_wp2_with fail
        go_at_call 62
        refine (ttlS w0 g M _ y4 hSU).mono ?_
        rintro e u5 ⟨xT, he, hxT, hSu, hp, hq⟩
        obtain rfl : e = .returned (.agg #[.int .i64 xT.1, .string xT.2]) := he
        have HPT := Lib.hid hp
        rw [nx_def] at hSu
        have ku := heap_grown hq hn1.symm kbU
        have kru := heap_grown hq hn3.symm krU
        have kfu := heap_grown hq hn2.symm kfU
        have hcu := Blk.cell ku
        have hfu := Blk.frozen ku
        have kw3 : (u5.setCell ⟨bc, 3, none⟩ (.int .i64 xT.1)).heap[bc]? = some (.cells #[.int .i64 (v : Int), .string xU, .string ⟨#[]⟩, .int .i64 xT.1, .string ⟨#[]⟩, .int .i64 0, .string ⟨#[]⟩, .string ⟨#[]⟩, .int .i64 0, .slice none 0 0] 31 (0, 0)) := heap_set_near _ _ _ _ _ _ ku
        have kw4 : ((u5.setCell ⟨bc, 3, none⟩ (.int .i64 xT.1)).setCell ⟨bc, 4, none⟩ (.string xT.2)).heap[bc]? = some (.cells #[.int .i64 (v : Int), .string xU, .string ⟨#[]⟩, .int .i64 xT.1, .string xT.2, .int .i64 0, .string ⟨#[]⟩, .string ⟨#[]⟩, .int .i64 0, .slice none 0 0] 31 (0, 0)) := heap_set_near _ _ _ _ _ _ kw3
        have kbT : ((u5.setCell ⟨bc, 3, none⟩ (.int .i64 xT.1)).setCell ⟨bc, 4, none⟩ (.string xT.2)).heap[bc]? = _ := kw4
        have krT : ((u5.setCell ⟨bc, 3, none⟩ (.int .i64 xT.1)).setCell ⟨bc, 4, none⟩ (.string xT.2)).heap[W.heap.size]? = _ := ((heap_set_far _ _ _ _ _ hn5.symm).trans ((heap_set_far _ _ _ _ _ hn5.symm).trans kru))
        have kfT : ((u5.setCell ⟨bc, 3, none⟩ (.int .i64 xT.1)).setCell ⟨bc, 4, none⟩ (.string xT.2)).heap[bf]? = _ := ((heap_set_far _ _ _ _ _ hn4.symm).trans ((heap_set_far _ _ _ _ _ hn4.symm).trans kfu))
        have hST := ((hSu.set (i := 3) hn1 hbs.1 (.int .i64 xT.1)).set (i := 4) hn1 hbs.1 (.string xT.2))
        have hGT := (grown_setN (i := 4) (grown_setN (i := 3) (hGU.trans hq) hbs.2.2 (.int .i64 xT.1)) hbs.2.2 (.string xT.2))
        clear kbU krU kfU hSU hGU ku kru kfu hq hSu hp kq4 kw3 kw4
        go_upto_region 10 with fail
        clear hcu hfu
        generalize ((u5.setCell ⟨bc, 3, none⟩ (.int .i64 xT.1)).setCell ⟨bc, 4, none⟩ (.string xT.2)) = y5 at *
        have kq5 := Blk.cell kfT
        obtain ⟨f1, f2, f3, f4, f5, f6⟩ := HFL.out
        have HC : Hid (s.bind pCg = ((nx (nx (nx s pInt) pTxt) pTtl)).map fun l => ((⟨(v : Int), xU, ⟨#[]⟩, xT.1, xT.2, 0, ⟨#[]⟩, ⟨#[]⟩, 0, []⟩ : Cg), l)) := Lib.hid (by
          have hc := pCg_chain (s := s) (k := (v : Int)) (u := xU) (nt := ⟨#[]⟩) (tx := ⟨#[]⟩) (t := xT) (o := (0, ⟨#[]⟩)) (n := 0) (hs := []) HP1.out HVV.out (by simp only [f1, f2, f3, f4, f5, f6, nx_on, nx_off]; exact ok_on HPU.out) (by simp only [f1, f2, f3, f4, f5, f6, nx_on, nx_off]; exact ok_off) (by simp only [f1, f2, f3, f4, f5, f6, nx_on, nx_off]; exact ok_on HPT.out) (by simp only [f1, f2, f3, f4, f5, f6, nx_on, nx_off]; exact ok_off) (by simp only [f1, f2, f3, f4, f5, f6, nx_on, nx_off]; exact ok_off) (by simp only [f1, f2, f3, f4, f5, f6, nx_on, nx_off]; exact ok_off) (by simp only [f1, f2, f3, f4, f5, f6, nx_on, nx_off]; exact ok_off)
          simp only [f1, f2, f3, f4, f5, f6, nx_on, nx_off] at hc
          exact hc)
        clear f1 f2 f3 f4 f5 f6
        have HSE := Lib.hid hST
        have HGE := Lib.hid hGT
        clear hST hGT
        have kcb := Blk.cell kbT
        have kfr := Blk.frozen krT
        have kcr0 := Blk.cell krT
        have kz9 := ten_kq krT (.int .i64 (v : Int)) (.string xU) (.string ⟨#[]⟩) (.int .i64 xT.1) (.string xT.2) (.int .i64 0) (.string ⟨#[]⟩) (.string ⟨#[]⟩) (.int .i64 0) (.slice none 0 0)
        have kcz := Blk.cell kz9
        have HSF := Lib.hid ((((((((((HSE.out.set (i := 0) hn3 hbs.2.1 (.int .i64 (v : Int))).set (i := 1) hn3 hbs.2.1 (.string xU)).set (i := 2) hn3 hbs.2.1 (.string ⟨#[]⟩)).set (i := 3) hn3 hbs.2.1 (.int .i64 xT.1)).set (i := 4) hn3 hbs.2.1 (.string xT.2)).set (i := 5) hn3 hbs.2.1 (.int .i64 0)).set (i := 6) hn3 hbs.2.1 (.string ⟨#[]⟩)).set (i := 7) hn3 hbs.2.1 (.string ⟨#[]⟩)).set (i := 8) hn3 hbs.2.1 (.int .i64 0)).set (i := 9) hn3 hbs.2.1 (.slice none 0 0))
        have HGF := Lib.hid (grown_setN (i := 9) (grown_setN (i := 8) (grown_setN (i := 7) (grown_setN (i := 6) (grown_setN (i := 5) (grown_setN (i := 4) (grown_setN (i := 3) (grown_setN (i := 2) (grown_setN (i := 1) (grown_setN (i := 0) HGE.out (Nat.le_refl _) (.int .i64 (v : Int))) (Nat.le_refl _) (.string xU)) (Nat.le_refl _) (.string ⟨#[]⟩)) (Nat.le_refl _) (.int .i64 xT.1)) (Nat.le_refl _) (.string xT.2)) (Nat.le_refl _) (.int .i64 0)) (Nat.le_refl _) (.string ⟨#[]⟩)) (Nat.le_refl _) (.string ⟨#[]⟩)) (Nat.le_refl _) (.int .i64 0)) (Nat.le_refl _) (.slice none 0 0))
        clear kz9
        go_wp2_with fail
        have hwfT : Hid (Lit.wf (.int .i64 xT.1) = true) := Lib.hid (WalkArith.wf_i64 (by omega))
        refine bodyPost_ret (v := .agg #[.int .i64 (v : Int), .string xU, .string ⟨#[]⟩, .int .i64 xT.1, .string xT.2, .int .i64 0, .string ⟨#[]⟩, .string ⟨#[]⟩, .int .i64 0, .slice none 0 0]) ?_ rfl ⟨⟨(v : Int), xU, ⟨#[]⟩, xT.1, xT.2, 0, ⟨#[]⟩, ⟨#[]⟩, 0, []⟩, none, 0, 0, rfl, RdR.nil _ _ _, fun ad h => (by cases h), ⟨hw1.out, Nat.le_trans hxU HM.out, Nat.zero_le _, hwfT.out, Nat.le_trans hxT.2.2 HM.out, hw0.out, Nat.zero_le _, Nat.zero_le _, hw0.out, fun r hr => (by cases hr)⟩, ?_, fun q hq => ?_, HGF.out⟩
        · simp [results, Tryd.results43, go_sem, kcz]
        · rw [HC.out, Option.map_map]
          have e : ((fun x : Cg × List UInt8 => x.2) ∘ fun l => ((⟨(v : Int), xU, ⟨#[]⟩, xT.1, xT.2, 0, ⟨#[]⟩, ⟨#[]⟩, 0, []⟩ : Cg), l)) = id := rfl
          rw [e, Option.map_id]
          exact HSF.out
        · rw [HC.out] at hq
          cases hst : (nx (nx (nx s pInt) pTxt) pTtl) with
          | none => rw [hst] at hq; cases hq
          | some l => rw [hst] at hq; injection hq with hq; rw [← hq]
    · have hU : fU (v : Int) = true := by rw [hkd]; rfl
      have hN : fN (v : Int) = false := by rw [hkd]; rfl
      have hT : fT (v : Int) = true := by rw [hkd]; rfl
      have hO : fO (v : Int) = true := by rw [hkd]; rfl
      have hK : fK (v : Int) = true := by rw [hkd]; rfl
      have hH : fH (v : Int) = false := by rw [hkd]; rfl
      clear hkd
      rw [hU, hN, hT, hO, hK, hH] at kf5
      have kk := Blk.cell kf4
      rw [hU, hN, hT, hO, hK, hH] at kk
      have HFL := Lib.hid (And.intro hU (And.intro hN (And.intro hT (And.intro hO (And.intro hK hH)))))
      clear hU hN hT hO hK hH hkf kf4 kg
      cases bb with
      | false =>
        go_upto_region 4 with fail
        generalize y2.setCell ⟨g, 1, none⟩ (.bool false) = y3 at *
        have kk := kf5
        have kq3 := Blk.cell kf5
        go_wp2_with fail
        go_at_call 61
        refine (txtS w0 g M _ y3 HSA).mono ?_
        rintro e u4 ⟨xU, he, hxU, hSu, hp, hq⟩
        obtain rfl : e = .returned (.string xU) := he
        have HPU := Lib.hid hp
        rw [nx_def] at hSu
        have ku := heap_grown hq hn1.symm kb5
        have kru := heap_grown hq hn3.symm kr5
        have kfu := heap_grown hq hn2.symm kf5
        have hcu := Blk.cell ku
        have hfu := Blk.frozen ku
        have kw1 : (u4.setCell ⟨bc, 1, none⟩ (.string xU)).heap[bc]? = some (.cells #[.int .i64 (v : Int), .string xU, .string ⟨#[]⟩, .int .i64 0, .string ⟨#[]⟩, .int .i64 0, .string ⟨#[]⟩, .string ⟨#[]⟩, .int .i64 0, .slice none 0 0] 31 (0, 0)) := heap_set_near _ _ _ _ _ _ ku
        have kbU : (u4.setCell ⟨bc, 1, none⟩ (.string xU)).heap[bc]? = _ := kw1
        have krU : (u4.setCell ⟨bc, 1, none⟩ (.string xU)).heap[W.heap.size]? = _ := ((heap_set_far _ _ _ _ _ hn5.symm).trans kru)
        have kfU : (u4.setCell ⟨bc, 1, none⟩ (.string xU)).heap[bf]? = _ := ((heap_set_far _ _ _ _ _ hn4.symm).trans kfu)
        have hSU := (hSu.set (i := 1) hn1 hbs.1 (.string xU))
        have hGU := (grown_setN (i := 1) (HGA.trans hq) hbs.2.2 (.string xU))
        clear kb5 kr5 kf5 HSA HGA ku kru kfu hq hSu hp kq3 kw1
        go_upto_region 6 with fail
        clear hcu hfu
        generalize (u4.setCell ⟨bc, 1, none⟩ (.string xU)) = y4 at *
        have kq4 := Blk.cell kfU
        go_wp2_with fail
        go_at_call 62
        refine (ttlS w0 g M _ y4 hSU).mono ?_
        rintro e u5 ⟨xT, he, hxT, hSu, hp, hq⟩
        obtain rfl : e = .returned (.agg #[.int .i64 xT.1, .string xT.2]) := he
        have HPT := Lib.hid hp
        rw [nx_def] at hSu
        have ku := heap_grown hq hn1.symm kbU
        have kru := heap_grown hq hn3.symm krU
        have kfu := heap_grown hq hn2.symm kfU
        have hcu := Blk.cell ku
        have hfu := Blk.frozen ku
        have kw3 : (u5.setCell ⟨bc, 3, none⟩ (.int .i64 xT.1)).heap[bc]? = some (.cells #[.int .i64 (v : Int), .string xU, .string ⟨#[]⟩, .int .i64 xT.1, .string ⟨#[]⟩, .int .i64 0, .string ⟨#[]⟩, .string ⟨#[]⟩, .int .i64 0, .slice none 0 0] 31 (0, 0)) := heap_set_near _ _ _ _ _ _ ku
        have kw4 : ((u5.setCell ⟨bc, 3, none⟩ (.int .i64 xT.1)).setCell ⟨bc, 4, none⟩ (.string xT.2)).heap[bc]? = some (.cells #[.int .i64 (v : Int), .string xU, .string ⟨#[]⟩, .int .i64 xT.1, .string xT.2, .int .i64 0, .string ⟨#[]⟩, .string ⟨#[]⟩, .int .i64 0, .slice none 0 0] 31 (0, 0)) := heap_set_near _ _ _ _ _ _ kw3
        have kbT : ((u5.setCell ⟨bc, 3, none⟩ (.int .i64 xT.1)).setCell ⟨bc, 4, none⟩ (.string xT.2)).heap[bc]? = _ := kw4
        have krT : ((u5.setCell ⟨bc, 3, none⟩ (.int .i64 xT.1)).setCell ⟨bc, 4, none⟩ (.string xT.2)).heap[W.heap.size]? = _ := ((heap_set_far _ _ _ _ _ hn5.symm).trans ((heap_set_far _ _ _ _ _ hn5.symm).trans kru))
        have kfT : ((u5.setCell ⟨bc, 3, none⟩ (.int .i64 xT.1)).setCell ⟨bc, 4, none⟩ (.string xT.2)).heap[bf]? = _ := ((heap_set_far _ _ _ _ _ hn4.symm).trans ((heap_set_far _ _ _ _ _ hn4.symm).trans kfu))
        have hST := ((hSu.set (i := 3) hn1 hbs.1 (.int .i64 xT.1)).set (i := 4) hn1 hbs.1 (.string xT.2))
        have hGT := (grown_setN (i := 4) (grown_setN (i := 3) (hGU.trans hq) hbs.2.2 (.int .i64 xT.1)) hbs.2.2 (.string xT.2))
        clear kbU krU kfU hSU hGU ku kru kfu hq hSu hp kq4 kw3 kw4
        go_upto_region 10 with fail
        clear hcu hfu
        generalize ((u5.setCell ⟨bc, 3, none⟩ (.int .i64 xT.1)).setCell ⟨bc, 4, none⟩ (.string xT.2)) = y5 at *
        have kq5 := Blk.cell kfT
        go_wp2_with fail
        go_at_call 62
        refine (ttlS w0 g M _ y5 hST).mono ?_
        rintro e u6 ⟨xO, he, hxO, hSu, hp, hq⟩
        obtain rfl : e = .returned (.agg #[.int .i64 xO.1, .string xO.2]) := he
        have HPO := Lib.hid hp
        rw [nx_def] at hSu
        have ku := heap_grown hq hn1.symm kbT
        have kru := heap_grown hq hn3.symm krT
        have kfu := heap_grown hq hn2.symm kfT
        have hcu := Blk.cell ku
        have hfu := Blk.frozen ku
        have kw5 : (u6.setCell ⟨bc, 5, none⟩ (.int .i64 xO.1)).heap[bc]? = some (.cells #[.int .i64 (v : Int), .string xU, .string ⟨#[]⟩, .int .i64 xT.1, .string xT.2, .int .i64 xO.1, .string ⟨#[]⟩, .string ⟨#[]⟩, .int .i64 0, .slice none 0 0] 31 (0, 0)) := heap_set_near _ _ _ _ _ _ ku
        have kw6 : ((u6.setCell ⟨bc, 5, none⟩ (.int .i64 xO.1)).setCell ⟨bc, 6, none⟩ (.string xO.2)).heap[bc]? = some (.cells #[.int .i64 (v : Int), .string xU, .string ⟨#[]⟩, .int .i64 xT.1, .string xT.2, .int .i64 xO.1, .string xO.2, .string ⟨#[]⟩, .int .i64 0, .slice none 0 0] 31 (0, 0)) := heap_set_near _ _ _ _ _ _ kw5
        have kbO : ((u6.setCell ⟨bc, 5, none⟩ (.int .i64 xO.1)).setCell ⟨bc, 6, none⟩ (.string xO.2)).heap[bc]? = _ := kw6
        have krO : ((u6.setCell ⟨bc, 5, none⟩ (.int .i64 xO.1)).setCell ⟨bc, 6, none⟩ (.string xO.2)).heap[W.heap.size]? = _ := ((heap_set_far _ _ _ _ _ hn5.symm).trans ((heap_set_far _ _ _ _ _ hn5.symm).trans kru))
        have kfO : ((u6.setCell ⟨bc, 5, none⟩ (.int .i64 xO.1)).setCell ⟨bc, 6, none⟩ (.string xO.2)).heap[bf]? = _ := ((heap_set_far _ _ _ _ _ hn4.symm).trans ((heap_set_far _ _ _ _ _ hn4.symm).trans kfu))
        have hSO := ((hSu.set (i := 5) hn1 hbs.1 (.int .i64 xO.1)).set (i := 6) hn1 hbs.1 (.string xO.2))
        have hGO := (grown_setN (i := 6) (grown_setN (i := 5) (hGT.trans hq) hbs.2.2 (.int .i64 xO.1)) hbs.2.2 (.string xO.2))
        clear kbT krT kfT hST hGT ku kru kfu hq hSu hp kq5 kw5 kw6
        go_upto_region 12 with fail
        clear hcu hfu
        generalize ((u6.setCell ⟨bc, 5, none⟩ (.int .i64 xO.1)).setCell ⟨bc, 6, none⟩ (.string xO.2)) = y6 at *
        have kq6 := Blk.cell kfO
        go_wp2_with fail
        go_at_call 42
        refine (numS w0 g M _ y6 hSO).mono ?_
        rintro e u7 ⟨xK, he, hxK, hSu, hp, hq⟩
        obtain rfl : e = .returned (.int .i64 (xK : Int)) := he
        have HPK := Lib.hid (pInt_ok hp)
        rw [nx_def, ← pInt_nx] at hSu
        have ku := heap_grown hq hn1.symm kbO
        have kru := heap_grown hq hn3.symm krO
        have kfu := heap_grown hq hn2.symm kfO
        have hcu := Blk.cell ku
        have hfu := Blk.frozen ku
        have kw8 : (u7.setCell ⟨bc, 8, none⟩ (.int .i64 (xK : Int))).heap[bc]? = some (.cells #[.int .i64 (v : Int), .string xU, .string ⟨#[]⟩, .int .i64 xT.1, .string xT.2, .int .i64 xO.1, .string xO.2, .string ⟨#[]⟩, .int .i64 (xK : Int), .slice none 0 0] 31 (0, 0)) := heap_set_near _ _ _ _ _ _ ku
        have kbK : (u7.setCell ⟨bc, 8, none⟩ (.int .i64 (xK : Int))).heap[bc]? = _ := kw8
        have krK : (u7.setCell ⟨bc, 8, none⟩ (.int .i64 (xK : Int))).heap[W.heap.size]? = _ := ((heap_set_far _ _ _ _ _ hn5.symm).trans kru)
        have kfK : (u7.setCell ⟨bc, 8, none⟩ (.int .i64 (xK : Int))).heap[bf]? = _ := ((heap_set_far _ _ _ _ _ hn4.symm).trans kfu)
        have hSK := (hSu.set (i := 8) hn1 hbs.1 (.int .i64 (xK : Int)))
        have hGK := (grown_setN (i := 8) (hGO.trans hq) hbs.2.2 (.int .i64 (xK : Int)))
        clear kbO krO kfO hSO hGO ku kru kfu hq hSu hp kq6 kw8
        go_upto_region 16 with fail
        clear hcu hfu
        generalize (u7.setCell ⟨bc, 8, none⟩ (.int .i64 (xK : Int))) = y7 at *
        have kq7 := Blk.cell kfK
        obtain ⟨f1, f2, f3, f4, f5, f6⟩ := HFL.out
        have HC : Hid (s.bind pCg = ((nx (nx (nx (nx (nx s pInt) pTxt) pTtl) pTtl) pInt)).map fun l => ((⟨(v : Int), xU, ⟨#[]⟩, xT.1, xT.2, xO.1, xO.2, ⟨#[]⟩, (xK : Int), []⟩ : Cg), l)) := Lib.hid (by
          have hc := pCg_chain (s := s) (k := (v : Int)) (u := xU) (nt := ⟨#[]⟩) (tx := ⟨#[]⟩) (t := xT) (o := xO) (n := (xK : Int)) (hs := []) HP1.out HVV.out (by simp only [f1, f2, f3, f4, f5, f6, nx_on, nx_off]; exact ok_on HPU.out) (by simp only [f1, f2, f3, f4, f5, f6, nx_on, nx_off]; exact ok_off) (by simp only [f1, f2, f3, f4, f5, f6, nx_on, nx_off]; exact ok_on HPT.out) (by simp only [f1, f2, f3, f4, f5, f6, nx_on, nx_off]; exact ok_on HPO.out) (by simp only [f1, f2, f3, f4, f5, f6, nx_on, nx_off]; exact ok_off) (by simp only [f1, f2, f3, f4, f5, f6, nx_on, nx_off]; exact ok_on HPK.out) (by simp only [f1, f2, f3, f4, f5, f6, nx_on, nx_off]; exact ok_off)
          simp only [f1, f2, f3, f4, f5, f6, nx_on, nx_off] at hc
          exact hc)
        clear f1 f2 f3 f4 f5 f6
        have HSE := Lib.hid hSK
        have HGE := Lib.hid hGK
        clear hSK hGK
        have kcb := Blk.cell kbK
        have kfr := Blk.frozen krK
        have kcr0 := Blk.cell krK
        have kz9 := ten_kq krK (.int .i64 (v : Int)) (.string xU) (.string ⟨#[]⟩) (.int .i64 xT.1) (.string xT.2) (.int .i64 xO.1) (.string xO.2) (.string ⟨#[]⟩) (.int .i64 (xK : Int)) (.slice none 0 0)
        have kcz := Blk.cell kz9
        have HSF := Lib.hid ((((((((((HSE.out.set (i := 0) hn3 hbs.2.1 (.int .i64 (v : Int))).set (i := 1) hn3 hbs.2.1 (.string xU)).set (i := 2) hn3 hbs.2.1 (.string ⟨#[]⟩)).set (i := 3) hn3 hbs.2.1 (.int .i64 xT.1)).set (i := 4) hn3 hbs.2.1 (.string xT.2)).set (i := 5) hn3 hbs.2.1 (.int .i64 xO.1)).set (i := 6) hn3 hbs.2.1 (.string xO.2)).set (i := 7) hn3 hbs.2.1 (.string ⟨#[]⟩)).set (i := 8) hn3 hbs.2.1 (.int .i64 (xK : Int))).set (i := 9) hn3 hbs.2.1 (.slice none 0 0))
        have HGF := Lib.hid (grown_setN (i := 9) (grown_setN (i := 8) (grown_setN (i := 7) (grown_setN (i := 6) (grown_setN (i := 5) (grown_setN (i := 4) (grown_setN (i := 3) (grown_setN (i := 2) (grown_setN (i := 1) (grown_setN (i := 0) HGE.out (Nat.le_refl _) (.int .i64 (v : Int))) (Nat.le_refl _) (.string xU)) (Nat.le_refl _) (.string ⟨#[]⟩)) (Nat.le_refl _) (.int .i64 xT.1)) (Nat.le_refl _) (.string xT.2)) (Nat.le_refl _) (.int .i64 xO.1)) (Nat.le_refl _) (.string xO.2)) (Nat.le_refl _) (.string ⟨#[]⟩)) (Nat.le_refl _) (.int .i64 (xK : Int))) (Nat.le_refl _) (.slice none 0 0))
        clear kz9
        go_wp2_with fail
        have hwfT : Hid (Lit.wf (.int .i64 xT.1) = true) := Lib.hid (WalkArith.wf_i64 (by omega))
        have hwfO : Hid (Lit.wf (.int .i64 xO.1) = true) := Lib.hid (WalkArith.wf_i64 (by omega))
        have hwfK : Hid (Lit.wf (.int .i64 (xK : Int)) = true) := Lib.hid (WalkArith.wf_i64 (by omega))
        refine bodyPost_ret (v := .agg #[.int .i64 (v : Int), .string xU, .string ⟨#[]⟩, .int .i64 xT.1, .string xT.2, .int .i64 xO.1, .string xO.2, .string ⟨#[]⟩, .int .i64 (xK : Int), .slice none 0 0]) ?_ rfl ⟨⟨(v : Int), xU, ⟨#[]⟩, xT.1, xT.2, xO.1, xO.2, ⟨#[]⟩, (xK : Int), []⟩, none, 0, 0, rfl, RdR.nil _ _ _, fun ad h => (by cases h), ⟨hw1.out, Nat.le_trans hxU HM.out, Nat.zero_le _, hwfT.out, Nat.le_trans hxT.2.2 HM.out, hwfO.out, Nat.le_trans hxO.2.2 HM.out, Nat.zero_le _, hwfK.out, fun r hr => (by cases hr)⟩, ?_, fun q hq => ?_, HGF.out⟩
        · simp [results, Tryd.results43, go_sem, kcz]
        · rw [HC.out, Option.map_map]
          have e : ((fun x : Cg × List UInt8 => x.2) ∘ fun l => ((⟨(v : Int), xU, ⟨#[]⟩, xT.1, xT.2, xO.1, xO.2, ⟨#[]⟩, (xK : Int), []⟩ : Cg), l)) = id := rfl
          rw [e, Option.map_id]
          exact HSF.out
        · rw [HC.out] at hq
          cases hst : (nx (nx (nx (nx (nx s pInt) pTxt) pTtl) pTtl) pInt) with
          | none => rw [hst] at hq; cases hq
          | some l => rw [hst] at hq; injection hq with hq; rw [← hq]
      | true =>
        go_upto_region 4 with fail
        generalize y2.setCell ⟨g, 1, none⟩ (.bool true) = y3 at *
        have kk := kf5
        have kq3 := Blk.cell kf5
        go_wp2_with fail
        go_at_call 61
        refine (txtS w0 g M _ y3 HSA).mono ?_
        rintro e u4 ⟨xU, he, hxU, hSu, hp, hq⟩
        obtain rfl : e = .returned (.string xU) := he
        have HPU := Lib.hid hp
        rw [nx_def] at hSu
        have ku := heap_grown hq hn1.symm kb5
        have kru := heap_grown hq hn3.symm kr5
        have kfu := heap_grown hq hn2.symm kf5
        have hcu := Blk.cell ku
        have hfu := Blk.frozen ku
        have kw1 : (u4.setCell ⟨bc, 1, none⟩ (.string xU)).heap[bc]? = some (.cells #[.int .i64 (v : Int), .string xU, .string ⟨#[]⟩, .int .i64 0, .string ⟨#[]⟩, .int .i64 0, .string ⟨#[]⟩, .string ⟨#[]⟩, .int .i64 0, .slice none 0 0] 31 (0, 0)) := heap_set_near _ _ _ _ _ _ ku
        have kbU : (u4.setCell ⟨bc, 1, none⟩ (.string xU)).heap[bc]? = _ := kw1
        have krU : (u4.setCell ⟨bc, 1, none⟩ (.string xU)).heap[W.heap.size]? = _ := ((heap_set_far _ _ _ _ _ hn5.symm).trans kru)
        have kfU : (u4.setCell ⟨bc, 1, none⟩ (.string xU)).heap[bf]? = _ := ((heap_set_far _ _ _ _ _ hn4.symm).trans kfu)
        have hSU := (hSu.set (i := 1) hn1 hbs.1 (.string xU))
        have hGU := (grown_setN (i := 1) (HGA.trans hq) hbs.2.2 (.string xU))
        clear kb5 kr5 kf5 HSA HGA ku kru kfu hq hSu hp kq3 kw1
        go_upto_region 6 with fail
        clear hcu hfu
        generalize (u4.setCell ⟨bc, 1, none⟩ (.string xU)) = y4 at *
        have kq4 := Blk.cell kfU
        go_wp2_with fail
        go_at_call 62
        refine (ttlS w0 g M _ y4 hSU).mono ?_
        rintro e u5 ⟨xT, he, hxT, hSu, hp, hq⟩
        obtain rfl : e = .returned (.agg #[.int .i64 xT.1, .string xT.2]) := he
        have HPT := Lib.hid hp
        rw [nx_def] at hSu
        have ku := heap_grown hq hn1.symm kbU
        have kru := heap_grown hq hn3.symm krU
        have kfu := heap_grown hq hn2.symm kfU
        have hcu := Blk.cell ku
        have hfu := Blk.frozen ku
        have kw3 : (u5.setCell ⟨bc, 3, none⟩ (.int .i64 xT.1)).heap[bc]? = some (.cells #[.int .i64 (v : Int), .string xU, .string ⟨#[]⟩, .int .i64 xT.1, .string ⟨#[]⟩, .int .i64 0, .string ⟨#[]⟩, .string ⟨#[]⟩, .int .i64 0, .slice none 0 0] 31 (0, 0)) := heap_set_near _ _ _ _ _ _ ku
        have kw4 : ((u5.setCell ⟨bc, 3, none⟩ (.int .i64 xT.1)).setCell ⟨bc, 4, none⟩ (.string xT.2)).heap[bc]? = some (.cells #[.int .i64 (v : Int), .string xU, .string ⟨#[]⟩, .int .i64 xT.1, .string xT.2, .int .i64 0, .string ⟨#[]⟩, .string ⟨#[]⟩, .int .i64 0, .slice none 0 0] 31 (0, 0)) := heap_set_near _ _ _ _ _ _ kw3
        have kbT : ((u5.setCell ⟨bc, 3, none⟩ (.int .i64 xT.1)).setCell ⟨bc, 4, none⟩ (.string xT.2)).heap[bc]? = _ := kw4
        have krT : ((u5.setCell ⟨bc, 3, none⟩ (.int .i64 xT.1)).setCell ⟨bc, 4, none⟩ (.string xT.2)).heap[W.heap.size]? = _ := ((heap_set_far _ _ _ _ _ hn5.symm).trans ((heap_set_far _ _ _ _ _ hn5.symm).trans kru))
        have kfT : ((u5.setCell ⟨bc, 3, none⟩ (.int .i64 xT.1)).setCell ⟨bc, 4, none⟩ (.string xT.2)).heap[bf]? = _ := ((heap_set_far _ _ _ _ _ hn4.symm).trans ((heap_set_far _ _ _ _ _ hn4.symm).trans kfu))
        have hST := ((hSu.set (i := 3) hn1 hbs.1 (.int .i64 xT.1)).set (i := 4) hn1 hbs.1 (.string xT.2))
        have hGT := (grown_setN (i := 4) (grown_setN (i := 3) (hGU.trans hq) hbs.2.2 (.int .i64 xT.1)) hbs.2.2 (.string xT.2))
        clear kbU krU kfU hSU hGU ku kru kfu hq hSu hp kq4 kw3 kw4
        go_upto_region 10 with fail
        clear hcu hfu
        generalize ((u5.setCell ⟨bc, 3, none⟩ (.int .i64 xT.1)).setCell ⟨bc, 4, none⟩ (.string xT.2)) = y5 at *
        have kq5 := Blk.cell kfT
        go_wp2_with fail
        go_at_call 62
        refine (ttlS w0 g M _ y5 hST).mono ?_
        rintro e u6 ⟨xO, he, hxO, hSu, hp, hq⟩
        obtain rfl : e = .returned (.agg #[.int .i64 xO.1, .string xO.2]) := he
        have HPO := Lib.hid hp
        rw [nx_def] at hSu
        have ku := heap_grown hq hn1.symm kbT
        have kru := heap_grown hq hn3.symm krT
        have kfu := heap_grown hq hn2.symm kfT
        have hcu := Blk.cell ku
        have hfu := Blk.frozen ku
        have kw5 : (u6.setCell ⟨bc, 5, none⟩ (.int .i64 xO.1)).heap[bc]? = some (.cells #[.int .i64 (v : Int), .string xU, .string ⟨#[]⟩, .int .i64 xT.1, .string xT.2, .int .i64 xO.1, .string ⟨#[]⟩, .string ⟨#[]⟩, .int .i64 0, .slice none 0 0] 31 (0, 0)) := heap_set_near _ _ _ _ _ _ ku
        have kw6 : ((u6.setCell ⟨bc, 5, none⟩ (.int .i64 xO.1)).setCell ⟨bc, 6, none⟩ (.string xO.2)).heap[bc]? = some (.cells #[.int .i64 (v : Int), .string xU, .string ⟨#[]⟩, .int .i64 xT.1, .string xT.2, .int .i64 xO.1, .string xO.2, .string ⟨#[]⟩, .int .i64 0, .slice none 0 0] 31 (0, 0)) := heap_set_near _ _ _ _ _ _ kw5
        have kbO : ((u6.setCell ⟨bc, 5, none⟩ (.int .i64 xO.1)).setCell ⟨bc, 6, none⟩ (.string xO.2)).heap[bc]? = _ := kw6
        have krO : ((u6.setCell ⟨bc, 5, none⟩ (.int .i64 xO.1)).setCell ⟨bc, 6, none⟩ (.string xO.2)).heap[W.heap.size]? = _ := ((heap_set_far _ _ _ _ _ hn5.symm).trans ((heap_set_far _ _ _ _ _ hn5.symm).trans kru))
        have kfO : ((u6.setCell ⟨bc, 5, none⟩ (.int .i64 xO.1)).setCell ⟨bc, 6, none⟩ (.string xO.2)).heap[bf]? = _ := ((heap_set_far _ _ _ _ _ hn4.symm).trans ((heap_set_far _ _ _ _ _ hn4.symm).trans kfu))
        have hSO := ((hSu.set (i := 5) hn1 hbs.1 (.int .i64 xO.1)).set (i := 6) hn1 hbs.1 (.string xO.2))
        have hGO := (grown_setN (i := 6) (grown_setN (i := 5) (hGT.trans hq) hbs.2.2 (.int .i64 xO.1)) hbs.2.2 (.string xO.2))
        clear kbT krT kfT hST hGT ku kru kfu hq hSu hp kq5 kw5 kw6
        go_upto_region 12 with fail
        clear hcu hfu
        generalize ((u6.setCell ⟨bc, 5, none⟩ (.int .i64 xO.1)).setCell ⟨bc, 6, none⟩ (.string xO.2)) = y6 at *
        have kq6 := Blk.cell kfO
        go_wp2_with fail
        go_at_call 42
        refine (numS w0 g M _ y6 hSO).mono ?_
        rintro e u7 ⟨xK, he, hxK, hSu, hp, hq⟩
        obtain rfl : e = .returned (.int .i64 (xK : Int)) := he
        have HPK := Lib.hid (pInt_ok hp)
        rw [nx_def, ← pInt_nx] at hSu
        have ku := heap_grown hq hn1.symm kbO
        have kru := heap_grown hq hn3.symm krO
        have kfu := heap_grown hq hn2.symm kfO
        have hcu := Blk.cell ku
        have hfu := Blk.frozen ku
        have kw8 : (u7.setCell ⟨bc, 8, none⟩ (.int .i64 (xK : Int))).heap[bc]? = some (.cells #[.int .i64 (v : Int), .string xU, .string ⟨#[]⟩, .int .i64 xT.1, .string xT.2, .int .i64 xO.1, .string xO.2, .string ⟨#[]⟩, .int .i64 (xK : Int), .slice none 0 0] 31 (0, 0)) := heap_set_near _ _ _ _ _ _ ku
        have kbK : (u7.setCell ⟨bc, 8, none⟩ (.int .i64 (xK : Int))).heap[bc]? = _ := kw8
        have krK : (u7.setCell ⟨bc, 8, none⟩ (.int .i64 (xK : Int))).heap[W.heap.size]? = _ := ((heap_set_far _ _ _ _ _ hn5.symm).trans kru)
        have kfK : (u7.setCell ⟨bc, 8, none⟩ (.int .i64 (xK : Int))).heap[bf]? = _ := ((heap_set_far _ _ _ _ _ hn4.symm).trans kfu)
        have hSK := (hSu.set (i := 8) hn1 hbs.1 (.int .i64 (xK : Int)))
        have hGK := (grown_setN (i := 8) (hGO.trans hq) hbs.2.2 (.int .i64 (xK : Int)))
        clear kbO krO kfO hSO hGO ku kru kfu hq hSu hp kq6 kw8
        go_upto_region 16 with fail
        clear hcu hfu
        generalize (u7.setCell ⟨bc, 8, none⟩ (.int .i64 (xK : Int))) = y7 at *
        have kq7 := Blk.cell kfK
        obtain ⟨f1, f2, f3, f4, f5, f6⟩ := HFL.out
        have HC : Hid (s.bind pCg = ((nx (nx (nx (nx (nx s pInt) pTxt) pTtl) pTtl) pInt)).map fun l => ((⟨(v : Int), xU, ⟨#[]⟩, xT.1, xT.2, xO.1, xO.2, ⟨#[]⟩, (xK : Int), []⟩ : Cg), l)) := Lib.hid (by
          have hc := pCg_chain (s := s) (k := (v : Int)) (u := xU) (nt := ⟨#[]⟩) (tx := ⟨#[]⟩) (t := xT) (o := xO) (n := (xK : Int)) (hs := []) HP1.out HVV.out (by simp only [f1, f2, f3, f4, f5, f6, nx_on, nx_off]; exact ok_on HPU.out) (by simp only [f1, f2, f3, f4, f5, f6, nx_on, nx_off]; exact ok_off) (by simp only [f1, f2, f3, f4, f5, f6, nx_on, nx_off]; exact ok_on HPT.out) (by simp only [f1, f2, f3, f4, f5, f6, nx_on, nx_off]; exact ok_on HPO.out) (by simp only [f1, f2, f3, f4, f5, f6, nx_on, nx_off]; exact ok_off) (by simp only [f1, f2, f3, f4, f5, f6, nx_on, nx_off]; exact ok_on HPK.out) (by simp only [f1, f2, f3, f4, f5, f6, nx_on, nx_off]; exact ok_off)
          simp only [f1, f2, f3, f4, f5, f6, nx_on, nx_off] at hc
          exact hc)
        clear f1 f2 f3 f4 f5 f6
        have HSE := Lib.hid hSK
        have HGE := Lib.hid hGK
        clear hSK hGK
        have kcb := Blk.cell kbK
        have kfr := Blk.frozen krK
        have kcr0 := Blk.cell krK
        have kz9 := ten_kq krK (.int .i64 (v : Int)) (.string xU) (.string ⟨#[]⟩) (.int .i64 xT.1) (.string xT.2) (.int .i64 xO.1) (.string xO.2) (.string ⟨#[]⟩) (.int .i64 (xK : Int)) (.slice none 0 0)
        have kcz := Blk.cell kz9
        have HSF := Lib.hid ((((((((((HSE.out.set (i := 0) hn3 hbs.2.1 (.int .i64 (v : Int))).set (i := 1) hn3 hbs.2.1 (.string xU)).set (i := 2) hn3 hbs.2.1 (.string ⟨#[]⟩)).set (i := 3) hn3 hbs.2.1 (.int .i64 xT.1)).set (i := 4) hn3 hbs.2.1 (.string xT.2)).set (i := 5) hn3 hbs.2.1 (.int .i64 xO.1)).set (i := 6) hn3 hbs.2.1 (.string xO.2)).set (i := 7) hn3 hbs.2.1 (.string ⟨#[]⟩)).set (i := 8) hn3 hbs.2.1 (.int .i64 (xK : Int))).set (i := 9) hn3 hbs.2.1 (.slice none 0 0))
        have HGF := Lib.hid (grown_setN (i := 9) (grown_setN (i := 8) (grown_setN (i := 7) (grown_setN (i := 6) (grown_setN (i := 5) (grown_setN (i := 4) (grown_setN (i := 3) (grown_setN (i := 2) (grown_setN (i := 1) (grown_setN (i := 0) HGE.out (Nat.le_refl _) (.int .i64 (v : Int))) (Nat.le_refl _) (.string xU)) (Nat.le_refl _) (.string ⟨#[]⟩)) (Nat.le_refl _) (.int .i64 xT.1)) (Nat.le_refl _) (.string xT.2)) (Nat.le_refl _) (.int .i64 xO.1)) (Nat.le_refl _) (.string xO.2)) (Nat.le_refl _) (.string ⟨#[]⟩)) (Nat.le_refl _) (.int .i64 (xK : Int))) (Nat.le_refl _) (.slice none 0 0))
        clear kz9
        go_wp2_with fail
        have hwfT : Hid (Lit.wf (.int .i64 xT.1) = true) := Lib.hid (WalkArith.wf_i64 (by omega))
        have hwfO : Hid (Lit.wf (.int .i64 xO.1) = true) := Lib.hid (WalkArith.wf_i64 (by omega))
        have hwfK : Hid (Lit.wf (.int .i64 (xK : Int)) = true) := Lib.hid (WalkArith.wf_i64 (by omega))
        refine bodyPost_ret (v := .agg #[.int .i64 (v : Int), .string xU, .string ⟨#[]⟩, .int .i64 xT.1, .string xT.2, .int .i64 xO.1, .string xO.2, .string ⟨#[]⟩, .int .i64 (xK : Int), .slice none 0 0]) ?_ rfl ⟨⟨(v : Int), xU, ⟨#[]⟩, xT.1, xT.2, xO.1, xO.2, ⟨#[]⟩, (xK : Int), []⟩, none, 0, 0, rfl, RdR.nil _ _ _, fun ad h => (by cases h), ⟨hw1.out, Nat.le_trans hxU HM.out, Nat.zero_le _, hwfT.out, Nat.le_trans hxT.2.2 HM.out, hwfO.out, Nat.le_trans hxO.2.2 HM.out, Nat.zero_le _, hwfK.out, fun r hr => (by cases hr)⟩, ?_, fun q hq => ?_, HGF.out⟩
        · simp [results, Tryd.results43, go_sem, kcz]
        · rw [HC.out, Option.map_map]
          have e : ((fun x : Cg × List UInt8 => x.2) ∘ fun l => ((⟨(v : Int), xU, ⟨#[]⟩, xT.1, xT.2, xO.1, xO.2, ⟨#[]⟩, (xK : Int), []⟩ : Cg), l)) = id := rfl
          rw [e, Option.map_id]
          exact HSF.out
        · rw [HC.out] at hq
          cases hst : (nx (nx (nx (nx (nx s pInt) pTxt) pTtl) pTtl) pInt) with
          | none => rw [hst] at hq; cases hq
          | some l => rw [hst] at hq; injection hq with hq; rw [← hq]
    · have hU : fU (v : Int) = true := by rw [hkd]; rfl
      have hN : fN (v : Int) = false := by rw [hkd]; rfl
      have hT : fT (v : Int) = true := by rw [hkd]; rfl
      have hO : fO (v : Int) = false := by rw [hkd]; rfl
      have hK : fK (v : Int) = false := by rw [hkd]; rfl
      have hH : fH (v : Int) = true := by rw [hkd]; rfl
      clear hkd
      rw [hU, hN, hT, hO, hK, hH] at kf5
      have kk := Blk.cell kf4
      rw [hU, hN, hT, hO, hK, hH] at kk
      have HFL := Lib.hid (And.intro hU (And.intro hN (And.intro hT (And.intro hO (And.intro hK hH)))))
      clear hU hN hT hO hK hH hkf kf4 kg
      cases bb with
      | false =>
        go_upto_region 4 with fail
        generalize y2.setCell ⟨g, 1, none⟩ (.bool false) = y3 at *
        have kk := kf5
        have kq3 := Blk.cell kf5
        go_wp2_with fail
        go_at_call 61
        refine (txtS w0 g M _ y3 HSA).mono ?_
        rintro e u4 ⟨xU, he, hxU, hSu, hp, hq⟩
        obtain rfl : e = .returned (.string xU) := he
        have HPU := Lib.hid hp
        rw [nx_def] at hSu
        have ku := heap_grown hq hn1.symm kb5
        have kru := heap_grown hq hn3.symm kr5
        have kfu := heap_grown hq hn2.symm kf5
        have hcu := Blk.cell ku
        have hfu := Blk.frozen ku
        have kw1 : (u4.setCell ⟨bc, 1, none⟩ (.string xU)).heap[bc]? = some (.cells #[.int .i64 (v : Int), .string xU, .string ⟨#[]⟩, .int .i64 0, .string ⟨#[]⟩, .int .i64 0, .string ⟨#[]⟩, .string ⟨#[]⟩, .int .i64 0, .slice none 0 0] 31 (0, 0)) := heap_set_near _ _ _ _ _ _ ku
        have kbU : (u4.setCell ⟨bc, 1, none⟩ (.string xU)).heap[bc]? = _ := kw1
        have krU : (u4.setCell ⟨bc, 1, none⟩ (.string xU)).heap[W.heap.size]? = _ := ((heap_set_far _ _ _ _ _ hn5.symm).trans kru)
        have kfU : (u4.setCell ⟨bc, 1, none⟩ (.string xU)).heap[bf]? = _ := ((heap_set_far _ _ _ _ _ hn4.symm).trans kfu)
        have hSU := (hSu.set (i := 1) hn1 hbs.1 (.string xU))
        have hGU := (grown_setN (i := 1) (HGA.trans hq) hbs.2.2 (.string xU))
        clear kb5 kr5 kf5 HSA HGA ku kru kfu hq hSu hp kq3 kw1
        go_upto_region 6 with fail
        clear hcu hfu
        generalize (u4.setCell ⟨bc, 1, none⟩ (.string xU)) = y4 at *
        have kq4 := Blk.cell kfU
        go_wp2_with fail
        go_at_call 62
        refine (ttlS w0 g M _ y4 hSU).mono ?_
        rintro e u5 ⟨xT, he, hxT, hSu, hp, hq⟩
        obtain rfl : e = .returned (.agg #[.int .i64 xT.1, .string xT.2]) := he
        have HPT := Lib.hid hp
        rw [nx_def] at hSu
        have ku := heap_grown hq hn1.symm kbU
        have kru := heap_grown hq hn3.symm krU
        have kfu := heap_grown hq hn2.symm kfU
        have hcu := Blk.cell ku
        have hfu := Blk.frozen ku
        have kw3 : (u5.setCell ⟨bc, 3, none⟩ (.int .i64 xT.1)).heap[bc]? = some (.cells #[.int .i64 (v : Int), .string xU, .string ⟨#[]⟩, .int .i64 xT.1, .string ⟨#[]⟩, .int .i64 0, .string ⟨#[]⟩, .string ⟨#[]⟩, .int .i64 0, .slice none 0 0] 31 (0, 0)) := heap_set_near _ _ _ _ _ _ ku
        have kw4 : ((u5.setCell ⟨bc, 3, none⟩ (.int .i64 xT.1)).setCell ⟨bc, 4, none⟩ (.string xT.2)).heap[bc]? = some (.cells #[.int .i64 (v : Int), .string xU, .string ⟨#[]⟩, .int .i64 xT.1, .string xT.2, .int .i64 0, .string ⟨#[]⟩, .string ⟨#[]⟩, .int .i64 0, .slice none 0 0] 31 (0, 0)) := heap_set_near _ _ _ _ _ _ kw3
        have kbT : ((u5.setCell ⟨bc, 3, none⟩ (.int .i64 xT.1)).setCell ⟨bc, 4, none⟩ (.string xT.2)).heap[bc]? = _ := kw4
        have krT : ((u5.setCell ⟨bc, 3, none⟩ (.int .i64 xT.1)).setCell ⟨bc, 4, none⟩ (.string xT.2)).heap[W.heap.size]? = _ := ((heap_set_far _ _ _ _ _ hn5.symm).trans ((heap_set_far _ _ _ _ _ hn5.symm).trans kru))
        have kfT : ((u5.setCell ⟨bc, 3, none⟩ (.int .i64 xT.1)).setCell ⟨bc, 4, none⟩ (.string xT.2)).heap[bf]? = _ := ((heap_set_far _ _ _ _ _ hn4.symm).trans ((heap_set_far _ _ _ _ _ hn4.symm).trans kfu))
        have hST := ((hSu.set (i := 3) hn1 hbs.1 (.int .i64 xT.1)).set (i := 4) hn1 hbs.1 (.string xT.2))
        have hGT := (grown_setN (i := 4) (grown_setN (i := 3) (hGU.trans hq) hbs.2.2 (.int .i64 xT.1)) hbs.2.2 (.string xT.2))
        clear kbU krU kfU hSU hGU ku kru kfu hq hSu hp kq4 kw3 kw4
        go_upto_region 10 with fail
        clear hcu hfu
        generalize ((u5.setCell ⟨bc, 3, none⟩ (.int .i64 xT.1)).setCell ⟨bc, 4, none⟩ (.string xT.2)) = y5 at *
        have kq5 := Blk.cell kfT
        go_wp2_with fail
        go_at_call 63
        refine (rdhst_any w0 g M _ y5 hST HM.out).mono ?_
        have hyb : bc < y5.heap.size := Blk.lt kbT
        rintro e u6 ⟨Ah, nh, ch, Lh, rfl, hoh, hwh, hSu, hp, hq⟩
        have hneb : Ah.map (·.block) ≠ some bc := fun hh => by have := (OwV.lt hoh _ hh).1; omega
        have hner : Ah.map (·.block) ≠ some W.heap.size := fun hh => by have := (OwV.lt hoh _ hh).1; have := hbs.2.2; omega
        have HPH := Lib.hid hp
        rw [nx_def] at hSu
        have ku := heap_grown hq hn1.symm kbT
        have kru := heap_grown hq hn3.symm krT
        have kfu := heap_grown hq hn2.symm kfT
        have hcu := Blk.cell ku
        have hfu := Blk.frozen ku
        have kw9 : (u6.setCell ⟨bc, 9, none⟩ (.slice Ah nh ch)).heap[bc]? = some (.cells #[.int .i64 (v : Int), .string xU, .string ⟨#[]⟩, .int .i64 xT.1, .string xT.2, .int .i64 0, .string ⟨#[]⟩, .string ⟨#[]⟩, .int .i64 0, .slice Ah nh ch] 31 (0, 0)) := heap_set_near _ _ _ _ _ _ ku
        have kbH : (u6.setCell ⟨bc, 9, none⟩ (.slice Ah nh ch)).heap[bc]? = _ := kw9
        have krH : (u6.setCell ⟨bc, 9, none⟩ (.slice Ah nh ch)).heap[W.heap.size]? = _ := ((heap_set_far _ _ _ _ _ hn5.symm).trans kru)
        have kfH : (u6.setCell ⟨bc, 9, none⟩ (.slice Ah nh ch)).heap[bf]? = _ := ((heap_set_far _ _ _ _ _ hn4.symm).trans kfu)
        have hSH := (hSu.set (i := 9) hn1 hbs.1 (.slice Ah nh ch))
        have hGH := (grown_setN (i := 9) (hGT.trans hq) hbs.2.2 (.slice Ah nh ch))
        clear kbT krT kfT hST hGT ku kru kfu hq hSu hp kq5 kw9
        have hoh2 : OwR RV 6 (u6.setCell ⟨bc, 9, none⟩ (.slice Ah nh ch)) y5.heap.size 67 Ah nh ch Lh := OwV.st hoh hneb
        have HOH := Lib.hid hoh2
        have HNR := Lib.hid hner
        have HWH := Lib.hid hwh
        clear hoh hoh2 hneb hner hwh hyb
        go_upto_region 18 with fail
        clear hcu hfu
        generalize (u6.setCell ⟨bc, 9, none⟩ (.slice Ah nh ch)) = y6 at *
        have kq6 := Blk.cell kfH
        obtain ⟨f1, f2, f3, f4, f5, f6⟩ := HFL.out
        have HC : Hid (s.bind pCg = ((nx (nx (nx (nx s pInt) pTxt) pTtl) pHst)).map fun l => ((⟨(v : Int), xU, ⟨#[]⟩, xT.1, xT.2, 0, ⟨#[]⟩, ⟨#[]⟩, 0, Lh⟩ : Cg), l)) := Lib.hid (by
          have hc := pCg_chain (s := s) (k := (v : Int)) (u := xU) (nt := ⟨#[]⟩) (tx := ⟨#[]⟩) (t := xT) (o := (0, ⟨#[]⟩)) (n := 0) (hs := Lh) HP1.out HVV.out (by simp only [f1, f2, f3, f4, f5, f6, nx_on, nx_off]; exact ok_on HPU.out) (by simp only [f1, f2, f3, f4, f5, f6, nx_on, nx_off]; exact ok_off) (by simp only [f1, f2, f3, f4, f5, f6, nx_on, nx_off]; exact ok_on HPT.out) (by simp only [f1, f2, f3, f4, f5, f6, nx_on, nx_off]; exact ok_off) (by simp only [f1, f2, f3, f4, f5, f6, nx_on, nx_off]; exact ok_off) (by simp only [f1, f2, f3, f4, f5, f6, nx_on, nx_off]; exact ok_off) (by simp only [f1, f2, f3, f4, f5, f6, nx_on, nx_off]; exact ok_on HPH.out)
          simp only [f1, f2, f3, f4, f5, f6, nx_on, nx_off] at hc
          exact hc)
        clear f1 f2 f3 f4 f5 f6
        have HSE := Lib.hid hSH
        have HGE := Lib.hid hGH
        clear hSH hGH
        have kcb := Blk.cell kbH
        have kfr := Blk.frozen krH
        have kcr0 := Blk.cell krH
        have kz9 := ten_kq krH (.int .i64 (v : Int)) (.string xU) (.string ⟨#[]⟩) (.int .i64 xT.1) (.string xT.2) (.int .i64 0) (.string ⟨#[]⟩) (.string ⟨#[]⟩) (.int .i64 0) (.slice Ah nh ch)
        have kcz := Blk.cell kz9
        have HSF := Lib.hid ((((((((((HSE.out.set (i := 0) hn3 hbs.2.1 (.int .i64 (v : Int))).set (i := 1) hn3 hbs.2.1 (.string xU)).set (i := 2) hn3 hbs.2.1 (.string ⟨#[]⟩)).set (i := 3) hn3 hbs.2.1 (.int .i64 xT.1)).set (i := 4) hn3 hbs.2.1 (.string xT.2)).set (i := 5) hn3 hbs.2.1 (.int .i64 0)).set (i := 6) hn3 hbs.2.1 (.string ⟨#[]⟩)).set (i := 7) hn3 hbs.2.1 (.string ⟨#[]⟩)).set (i := 8) hn3 hbs.2.1 (.int .i64 0)).set (i := 9) hn3 hbs.2.1 (.slice Ah nh ch))
        have HGF := Lib.hid (grown_setN (i := 9) (grown_setN (i := 8) (grown_setN (i := 7) (grown_setN (i := 6) (grown_setN (i := 5) (grown_setN (i := 4) (grown_setN (i := 3) (grown_setN (i := 2) (grown_setN (i := 1) (grown_setN (i := 0) HGE.out (Nat.le_refl _) (.int .i64 (v : Int))) (Nat.le_refl _) (.string xU)) (Nat.le_refl _) (.string ⟨#[]⟩)) (Nat.le_refl _) (.int .i64 xT.1)) (Nat.le_refl _) (.string xT.2)) (Nat.le_refl _) (.int .i64 0)) (Nat.le_refl _) (.string ⟨#[]⟩)) (Nat.le_refl _) (.string ⟨#[]⟩)) (Nat.le_refl _) (.int .i64 0)) (Nat.le_refl _) (.slice Ah nh ch))
        clear kz9
        go_wp2_with fail
        have hwfT : Hid (Lit.wf (.int .i64 xT.1) = true) := Lib.hid (WalkArith.wf_i64 (by omega))
        have HOF := Lib.hid (OwV.st (i := 9) (u := .slice Ah nh ch) (OwV.st (i := 8) (u := .int .i64 0) (OwV.st (i := 7) (u := .string ⟨#[]⟩) (OwV.st (i := 6) (u := .string ⟨#[]⟩) (OwV.st (i := 5) (u := .int .i64 0) (OwV.st (i := 4) (u := .string xT.2) (OwV.st (i := 3) (u := .int .i64 xT.1) (OwV.st (i := 2) (u := .string ⟨#[]⟩) (OwV.st (i := 1) (u := .string xU) (OwV.st (i := 0) (u := .int .i64 (v : Int)) HOH.out HNR.out) HNR.out) HNR.out) HNR.out) HNR.out) HNR.out) HNR.out) HNR.out) HNR.out) HNR.out)
        refine bodyPost_ret (v := .agg #[.int .i64 (v : Int), .string xU, .string ⟨#[]⟩, .int .i64 xT.1, .string xT.2, .int .i64 0, .string ⟨#[]⟩, .string ⟨#[]⟩, .int .i64 0, .slice Ah nh ch]) ?_ rfl ⟨⟨(v : Int), xU, ⟨#[]⟩, xT.1, xT.2, 0, ⟨#[]⟩, ⟨#[]⟩, 0, Lh⟩, Ah, nh, ch, rfl, HOF.out.rd, OwV.ty HOF.out, ⟨hw1.out, Nat.le_trans hxU HM.out, Nat.zero_le _, hwfT.out, Nat.le_trans hxT.2.2 HM.out, hw0.out, Nat.zero_le _, Nat.zero_le _, hw0.out, HWH.out⟩, ?_, fun q hq => ?_, HGF.out⟩
        · simp [results, Tryd.results43, go_sem, kcz]
        · rw [HC.out, Option.map_map]
          have e : ((fun x : Cg × List UInt8 => x.2) ∘ fun l => ((⟨(v : Int), xU, ⟨#[]⟩, xT.1, xT.2, 0, ⟨#[]⟩, ⟨#[]⟩, 0, Lh⟩ : Cg), l)) = id := rfl
          rw [e, Option.map_id]
          exact HSF.out
        · rw [HC.out] at hq
          cases hst : (nx (nx (nx (nx s pInt) pTxt) pTtl) pHst) with
          | none => rw [hst] at hq; cases hq
          | some l => rw [hst] at hq; injection hq with hq; rw [← hq]
      | true =>
        go_upto_region 4 with fail
        generalize y2.setCell ⟨g, 1, none⟩ (.bool true) = y3 at *
        have kk := kf5
        have kq3 := Blk.cell kf5
        go_wp2_with fail
        go_at_call 61
        refine (txtS w0 g M _ y3 HSA).mono ?_
        rintro e u4 ⟨xU, he, hxU, hSu, hp, hq⟩
        obtain rfl : e = .returned (.string xU) := he
        have HPU := Lib.hid hp
        rw [nx_def] at hSu
        have ku := heap_grown hq hn1.symm kb5
        have kru := heap_grown hq hn3.symm kr5
        have kfu := heap_grown hq hn2.symm kf5
        have hcu := Blk.cell ku
        have hfu := Blk.frozen ku
        have kw1 : (u4.setCell ⟨bc, 1, none⟩ (.string xU)).heap[bc]? = some (.cells #[.int .i64 (v : Int), .string xU, .string ⟨#[]⟩, .int .i64 0, .string ⟨#[]⟩, .int .i64 0, .string ⟨#[]⟩, .string ⟨#[]⟩, .int .i64 0, .slice none 0 0] 31 (0, 0)) := heap_set_near _ _ _ _ _ _ ku
        have kbU : (u4.setCell ⟨bc, 1, none⟩ (.string xU)).heap[bc]? = _ := kw1
        have krU : (u4.setCell ⟨bc, 1, none⟩ (.string xU)).heap[W.heap.size]? = _ := ((heap_set_far _ _ _ _ _ hn5.symm).trans kru)
        have kfU : (u4.setCell ⟨bc, 1, none⟩ (.string xU)).heap[bf]? = _ := ((heap_set_far _ _ _ _ _ hn4.symm).trans kfu)
        have hSU := (hSu.set (i := 1) hn1 hbs.1 (.string xU))
        have hGU := (grown_setN (i := 1) (HGA.trans hq) hbs.2.2 (.string xU))
        clear kb5 kr5 kf5 HSA HGA ku kru kfu hq hSu hp kq3 kw1
        go_upto_region 6 with fail
        clear hcu hfu
        generalize (u4.setCell ⟨bc, 1, none⟩ (.string xU)) = y4 at *
        have kq4 := Blk.cell kfU
        go_wp2_with fail
        go_at_call 62
        refine (ttlS w0 g M _ y4 hSU).mono ?_
        rintro e u5 ⟨xT, he, hxT, hSu, hp, hq⟩
        obtain rfl : e = .returned (.agg #[.int .i64 xT.1, .string xT.2]) := he
        have HPT := Lib.hid hp
        rw [nx_def] at hSu
        have ku := heap_grown hq hn1.symm kbU
        have kru := heap_grown hq hn3.symm krU
        have kfu := heap_grown hq hn2.symm kfU
        have hcu := Blk.cell ku
        have hfu := Blk.frozen ku
        have kw3 : (u5.setCell ⟨bc, 3, none⟩ (.int .i64 xT.1)).heap[bc]? = some (.cells #[.int .i64 (v : Int), .string xU, .string ⟨#[]⟩, .int .i64 xT.1, .string ⟨#[]⟩, .int .i64 0, .string ⟨#[]⟩, .string ⟨#[]⟩, .int .i64 0, .slice none 0 0] 31 (0, 0)) := heap_set_near _ _ _ _ _ _ ku
        have kw4 : ((u5.setCell ⟨bc, 3, none⟩ (.int .i64 xT.1)).setCell ⟨bc, 4, none⟩ (.string xT.2)).heap[bc]? = some (.cells #[.int .i64 (v : Int), .string xU, .string ⟨#[]⟩, .int .i64 xT.1, .string xT.2, .int .i64 0, .string ⟨#[]⟩, .string ⟨#[]⟩, .int .i64 0, .slice none 0 0] 31 (0, 0)) := heap_set_near _ _ _ _ _ _ kw3
        have kbT : ((u5.setCell ⟨bc, 3, none⟩ (.int .i64 xT.1)).setCell ⟨bc, 4, none⟩ (.string xT.2)).heap[bc]? = _ := kw4
        have krT : ((u5.setCell ⟨bc, 3, none⟩ (.int .i64 xT.1)).setCell ⟨bc, 4, none⟩ (.string xT.2)).heap[W.heap.size]? = _ := ((heap_set_far _ _ _ _ _ hn5.symm).trans ((heap_set_far _ _ _ _ _ hn5.symm).trans kru))
        have kfT : ((u5.setCell ⟨bc, 3, none⟩ (.int .i64 xT.1)).setCell ⟨bc, 4, none⟩ (.string xT.2)).heap[bf]? = _ := ((heap_set_far _ _ _ _ _ hn4.symm).trans ((heap_set_far _ _ _ _ _ hn4.symm).trans kfu))
        have hST := ((hSu.set (i := 3) hn1 hbs.1 (.int .i64 xT.1)).set (i := 4) hn1 hbs.1 (.string xT.2))
        have hGT := (grown_setN (i := 4) (grown_setN (i := 3) (hGU.trans hq) hbs.2.2 (.int .i64 xT.1)) hbs.2.2 (.string xT.2))
        clear kbU krU kfU hSU hGU ku kru kfu hq hSu hp kq4 kw3 kw4
        go_upto_region 10 with fail
        clear hcu hfu
        generalize ((u5.setCell ⟨bc, 3, none⟩ (.int .i64 xT.1)).setCell ⟨bc, 4, none⟩ (.string xT.2)) = y5 at *
        have kq5 := Blk.cell kfT
        go_wp2_with fail
        go_at_call 63
        refine (rdhst_any w0 g M _ y5 hST HM.out).mono ?_
        have hyb : bc < y5.heap.size := Blk.lt kbT
        rintro e u6 ⟨Ah, nh, ch, Lh, rfl, hoh, hwh, hSu, hp, hq⟩
        have hneb : Ah.map (·.block) ≠ some bc := fun hh => by have := (OwV.lt hoh _ hh).1; omega
        have hner : Ah.map (·.block) ≠ some W.heap.size := fun hh => by have := (OwV.lt hoh _ hh).1; have := hbs.2.2; omega
        have HPH := Lib.hid hp
        rw [nx_def] at hSu
        have ku := heap_grown hq hn1.symm kbT
        have kru := heap_grown hq hn3.symm krT
        have kfu := heap_grown hq hn2.symm kfT
        have hcu := Blk.cell ku
        have hfu := Blk.frozen ku
        have kw9 : (u6.setCell ⟨bc, 9, none⟩ (.slice Ah nh ch)).heap[bc]? = some (.cells #[.int .i64 (v : Int), .string xU, .string ⟨#[]⟩, .int .i64 xT.1, .string xT.2, .int .i64 0, .string ⟨#[]⟩, .string ⟨#[]⟩, .int .i64 0, .slice Ah nh ch] 31 (0, 0)) := heap_set_near _ _ _ _ _ _ ku
        have kbH : (u6.setCell ⟨bc, 9, none⟩ (.slice Ah nh ch)).heap[bc]? = _ := kw9
        have krH : (u6.setCell ⟨bc, 9, none⟩ (.slice Ah nh ch)).heap[W.heap.size]? = _ := ((heap_set_far _ _ _ _ _ hn5.symm).trans kru)
        have kfH : (u6.setCell ⟨bc, 9, none⟩ (.slice Ah nh ch)).heap[bf]? = _ := ((heap_set_far _ _ _ _ _ hn4.symm).trans kfu)
        have hSH := (hSu.set (i := 9) hn1 hbs.1 (.slice Ah nh ch))
        have hGH := (grown_setN (i := 9) (hGT.trans hq) hbs.2.2 (.slice Ah nh ch))
        clear kbT krT kfT hST hGT ku kru kfu hq hSu hp kq5 kw9
        have hoh2 : OwR RV 6 (u6.setCell ⟨bc, 9, none⟩ (.slice Ah nh ch)) y5.heap.size 67 Ah nh ch Lh := OwV.st hoh hneb
        have HOH := Lib.hid hoh2
        have HNR := Lib.hid hner
        have HWH := Lib.hid hwh
        clear hoh hoh2 hneb hner hwh hyb
        go_upto_region 18 with fail
        clear hcu hfu
        generalize (u6.setCell ⟨bc, 9, none⟩ (.slice Ah nh ch)) = y6 at *
        have kq6 := Blk.cell kfH
        obtain ⟨f1, f2, f3, f4, f5, f6⟩ := HFL.out
        have HC : Hid (s.bind pCg = ((nx (nx (nx (nx s pInt) pTxt) pTtl) pHst)).map fun l => ((⟨(v : Int), xU, ⟨#[]⟩, xT.1, xT.2, 0, ⟨#[]⟩, ⟨#[]⟩, 0, Lh⟩ : Cg), l)) := Lib.hid (by
          have hc := pCg_chain (s := s) (k := (v : Int)) (u := xU) (nt := ⟨#[]⟩) (tx := ⟨#[]⟩) (t := xT) (o := (0, ⟨#[]⟩)) (n := 0) (hs := Lh) HP1.out HVV.out (by simp only [f1, f2, f3, f4, f5, f6, nx_on, nx_off]; exact ok_on HPU.out) (by simp only [f1, f2, f3, f4, f5, f6, nx_on, nx_off]; exact ok_off) (by simp only [f1, f2, f3, f4, f5, f6, nx_on, nx_off]; exact ok_on HPT.out) (by simp only [f1, f2, f3, f4, f5, f6, nx_on, nx_off]; exact ok_off) (by simp only [f1, f2, f3, f4, f5, f6, nx_on, nx_off]; exact ok_off) (by simp only [f1, f2, f3, f4, f5, f6, nx_on, nx_off]; exact ok_off) (by simp only [f1, f2, f3, f4, f5, f6, nx_on, nx_off]; exact ok_on HPH.out)
          simp only [f1, f2, f3, f4, f5, f6, nx_on, nx_off] at hc
          exact hc)
        clear f1 f2 f3 f4 f5 f6
        have HSE := Lib.hid hSH
        have HGE := Lib.hid hGH
        clear hSH hGH
        have kcb := Blk.cell kbH
        have kfr := Blk.frozen krH
        have kcr0 := Blk.cell krH
        have kz9 := ten_kq krH (.int .i64 (v : Int)) (.string xU) (.string ⟨#[]⟩) (.int .i64 xT.1) (.string xT.2) (.int .i64 0) (.string ⟨#[]⟩) (.string ⟨#[]⟩) (.int .i64 0) (.slice Ah nh ch)
        have kcz := Blk.cell kz9
        have HSF := Lib.hid ((((((((((HSE.out.set (i := 0) hn3 hbs.2.1 (.int .i64 (v : Int))).set (i := 1) hn3 hbs.2.1 (.string xU)).set (i := 2) hn3 hbs.2.1 (.string ⟨#[]⟩)).set (i := 3) hn3 hbs.2.1 (.int .i64 xT.1)).set (i := 4) hn3 hbs.2.1 (.string xT.2)).set (i := 5) hn3 hbs.2.1 (.int .i64 0)).set (i := 6) hn3 hbs.2.1 (.string ⟨#[]⟩)).set (i := 7) hn3 hbs.2.1 (.string ⟨#[]⟩)).set (i := 8) hn3 hbs.2.1 (.int .i64 0)).set (i := 9) hn3 hbs.2.1 (.slice Ah nh ch))
        have HGF := Lib.hid (grown_setN (i := 9) (grown_setN (i := 8) (grown_setN (i := 7) (grown_setN (i := 6) (grown_setN (i := 5) (grown_setN (i := 4) (grown_setN (i := 3) (grown_setN (i := 2) (grown_setN (i := 1) (grown_setN (i := 0) HGE.out (Nat.le_refl _) (.int .i64 (v : Int))) (Nat.le_refl _) (.string xU)) (Nat.le_refl _) (.string ⟨#[]⟩)) (Nat.le_refl _) (.int .i64 xT.1)) (Nat.le_refl _) (.string xT.2)) (Nat.le_refl _) (.int .i64 0)) (Nat.le_refl _) (.string ⟨#[]⟩)) (Nat.le_refl _) (.string ⟨#[]⟩)) (Nat.le_refl _) (.int .i64 0)) (Nat.le_refl _) (.slice Ah nh ch))
        clear kz9
        go_wp2_with fail
        have hwfT : Hid (Lit.wf (.int .i64 xT.1) = true) := Lib.hid (WalkArith.wf_i64 (by omega))
        have HOF := Lib.hid (OwV.st (i := 9) (u := .slice Ah nh ch) (OwV.st (i := 8) (u := .int .i64 0) (OwV.st (i := 7) (u := .string ⟨#[]⟩) (OwV.st (i := 6) (u := .string ⟨#[]⟩) (OwV.st (i := 5) (u := .int .i64 0) (OwV.st (i := 4) (u := .string xT.2) (OwV.st (i := 3) (u := .int .i64 xT.1) (OwV.st (i := 2) (u := .string ⟨#[]⟩) (OwV.st (i := 1) (u := .string xU) (OwV.st (i := 0) (u := .int .i64 (v : Int)) HOH.out HNR.out) HNR.out) HNR.out) HNR.out) HNR.out) HNR.out) HNR.out) HNR.out) HNR.out) HNR.out)
        refine bodyPost_ret (v := .agg #[.int .i64 (v : Int), .string xU, .string ⟨#[]⟩, .int .i64 xT.1, .string xT.2, .int .i64 0, .string ⟨#[]⟩, .string ⟨#[]⟩, .int .i64 0, .slice Ah nh ch]) ?_ rfl ⟨⟨(v : Int), xU, ⟨#[]⟩, xT.1, xT.2, 0, ⟨#[]⟩, ⟨#[]⟩, 0, Lh⟩, Ah, nh, ch, rfl, HOF.out.rd, OwV.ty HOF.out, ⟨hw1.out, Nat.le_trans hxU HM.out, Nat.zero_le _, hwfT.out, Nat.le_trans hxT.2.2 HM.out, hw0.out, Nat.zero_le _, Nat.zero_le _, hw0.out, HWH.out⟩, ?_, fun q hq => ?_, HGF.out⟩
        · simp [results, Tryd.results43, go_sem, kcz]
        · rw [HC.out, Option.map_map]
          have e : ((fun x : Cg × List UInt8 => x.2) ∘ fun l => ((⟨(v : Int), xU, ⟨#[]⟩, xT.1, xT.2, 0, ⟨#[]⟩, ⟨#[]⟩, 0, Lh⟩ : Cg), l)) = id := rfl
          rw [e, Option.map_id]
          exact HSF.out
        · rw [HC.out] at hq
          cases hst : (nx (nx (nx (nx s pInt) pTxt) pTtl) pHst) with
          | none => rw [hst] at hq; cases hq
          | some l => rw [hst] at hq; injection hq with hq; rw [← hq]
    · have hU : fU (v : Int) = false := by rw [hkd]; rfl
      have hN : fN (v : Int) = false := by rw [hkd]; rfl
      have hT : fT (v : Int) = false := by rw [hkd]; rfl
      have hO : fO (v : Int) = false := by rw [hkd]; rfl
      have hK : fK (v : Int) = true := by rw [hkd]; rfl
      have hH : fH (v : Int) = false := by rw [hkd]; rfl
      clear hkd
      rw [hU, hN, hT, hO, hK, hH] at kf5
      have kk := Blk.cell kf4
      rw [hU, hN, hT, hO, hK, hH] at kk
      have HFL := Lib.hid (And.intro hU (And.intro hN (And.intro hT (And.intro hO (And.intro hK hH)))))
      clear hU hN hT hO hK hH hkf kf4 kg
      cases bb with
      | false =>
        go_upto_region 4 with fail
        generalize y2.setCell ⟨g, 1, none⟩ (.bool false) = y3 at *
        have kk := kf5
        have kq3 := Blk.cell kf5
        go_wp2_with fail
        go_at_call 42
        refine (numS w0 g M _ y3 HSA).mono ?_
        rintro e u4 ⟨xK, he, hxK, hSu, hp, hq⟩
        obtain rfl : e = .returned (.int .i64 (xK : Int)) := he
        have HPK := Lib.hid (pInt_ok hp)
        rw [nx_def, ← pInt_nx] at hSu
        have ku := heap_grown hq hn1.symm kb5
        have kru := heap_grown hq hn3.symm kr5
        have kfu := heap_grown hq hn2.symm kf5
        have hcu := Blk.cell ku
        have hfu := Blk.frozen ku
        have kw8 : (u4.setCell ⟨bc, 8, none⟩ (.int .i64 (xK : Int))).heap[bc]? = some (.cells #[.int .i64 (v : Int), .string ⟨#[]⟩, .string ⟨#[]⟩, .int .i64 0, .string ⟨#[]⟩, .int .i64 0, .string ⟨#[]⟩, .string ⟨#[]⟩, .int .i64 (xK : Int), .slice none 0 0] 31 (0, 0)) := heap_set_near _ _ _ _ _ _ ku
        have kbK : (u4.setCell ⟨bc, 8, none⟩ (.int .i64 (xK : Int))).heap[bc]? = _ := kw8
        have krK : (u4.setCell ⟨bc, 8, none⟩ (.int .i64 (xK : Int))).heap[W.heap.size]? = _ := ((heap_set_far _ _ _ _ _ hn5.symm).trans kru)
        have kfK : (u4.setCell ⟨bc, 8, none⟩ (.int .i64 (xK : Int))).heap[bf]? = _ := ((heap_set_far _ _ _ _ _ hn4.symm).trans kfu)
        have hSK := (hSu.set (i := 8) hn1 hbs.1 (.int .i64 (xK : Int)))
        have hGK := (grown_setN (i := 8) (HGA.trans hq) hbs.2.2 (.int .i64 (xK : Int)))
        clear kb5 kr5 kf5 HSA HGA ku kru kfu hq hSu hp kq3 kw8
        go_upto_region 16 with fail
        clear hcu hfu
        generalize (u4.setCell ⟨bc, 8, none⟩ (.int .i64 (xK : Int))) = y4 at *
        have kq4 := Blk.cell kfK
        obtain ⟨f1, f2, f3, f4, f5, f6⟩ := HFL.out
        have HC : Hid (s.bind pCg = ((nx (nx s pInt) pInt)).map fun l => ((⟨(v : Int), ⟨#[]⟩, ⟨#[]⟩, 0, ⟨#[]⟩, 0, ⟨#[]⟩, ⟨#[]⟩, (xK : Int), []⟩ : Cg), l)) := Lib.hid (by
          have hc := pCg_chain (s := s) (k := (v : Int)) (u := ⟨#[]⟩) (nt := ⟨#[]⟩) (tx := ⟨#[]⟩) (t := (0, ⟨#[]⟩)) (o := (0, ⟨#[]⟩)) (n := (xK : Int)) (hs := []) HP1.out HVV.out (by simp only [f1, f2, f3, f4, f5, f6, nx_on, nx_off]; exact ok_off) (by simp only [f1, f2, f3, f4, f5, f6, nx_on, nx_off]; exact ok_off) (by simp only [f1, f2, f3, f4, f5, f6, nx_on, nx_off]; exact ok_off) (by simp only [f1, f2, f3, f4, f5, f6, nx_on, nx_off]; exact ok_off) (by simp only [f1, f2, f3, f4, f5, f6, nx_on, nx_off]; exact ok_off) (by simp only [f1, f2, f3, f4, f5, f6, nx_on, nx_off]; exact ok_on HPK.out) (by simp only [f1, f2, f3, f4, f5, f6, nx_on, nx_off]; exact ok_off)
          simp only [f1, f2, f3, f4, f5, f6, nx_on, nx_off] at hc
          exact hc)
        clear f1 f2 f3 f4 f5 f6
        have HSE := Lib.hid hSK
        have HGE := Lib.hid hGK
        clear hSK hGK
        have kcb := Blk.cell kbK
        have kfr := Blk.frozen krK
        have kcr0 := Blk.cell krK
        have kz9 := ten_kq krK (.int .i64 (v : Int)) (.string ⟨#[]⟩) (.string ⟨#[]⟩) (.int .i64 0) (.string ⟨#[]⟩) (.int .i64 0) (.string ⟨#[]⟩) (.string ⟨#[]⟩) (.int .i64 (xK : Int)) (.slice none 0 0)
        have kcz := Blk.cell kz9
        have HSF := Lib.hid ((((((((((HSE.out.set (i := 0) hn3 hbs.2.1 (.int .i64 (v : Int))).set (i := 1) hn3 hbs.2.1 (.string ⟨#[]⟩)).set (i := 2) hn3 hbs.2.1 (.string ⟨#[]⟩)).set (i := 3) hn3 hbs.2.1 (.int .i64 0)).set (i := 4) hn3 hbs.2.1 (.string ⟨#[]⟩)).set (i := 5) hn3 hbs.2.1 (.int .i64 0)).set (i := 6) hn3 hbs.2.1 (.string ⟨#[]⟩)).set (i := 7) hn3 hbs.2.1 (.string ⟨#[]⟩)).set (i := 8) hn3 hbs.2.1 (.int .i64 (xK : Int))).set (i := 9) hn3 hbs.2.1 (.slice none 0 0))
        have HGF := Lib.hid (grown_setN (i := 9) (grown_setN (i := 8) (grown_setN (i := 7) (grown_setN (i := 6) (grown_setN (i := 5) (grown_setN (i := 4) (grown_setN (i := 3) (grown_setN (i := 2) (grown_setN (i := 1) (grown_setN (i := 0) HGE.out (Nat.le_refl _) (.int .i64 (v : Int))) (Nat.le_refl _) (.string ⟨#[]⟩)) (Nat.le_refl _) (.string ⟨#[]⟩)) (Nat.le_refl _) (.int .i64 0)) (Nat.le_refl _) (.string ⟨#[]⟩)) (Nat.le_refl _) (.int .i64 0)) (Nat.le_refl _) (.string ⟨#[]⟩)) (Nat.le_refl _) (.string ⟨#[]⟩)) (Nat.le_refl _) (.int .i64 (xK : Int))) (Nat.le_refl _) (.slice none 0 0))
        clear kz9
        go_wp2_with fail
        have hwfK : Hid (Lit.wf (.int .i64 (xK : Int)) = true) := Lib.hid (WalkArith.wf_i64 (by omega))
        refine bodyPost_ret (v := .agg #[.int .i64 (v : Int), .string ⟨#[]⟩, .string ⟨#[]⟩, .int .i64 0, .string ⟨#[]⟩, .int .i64 0, .string ⟨#[]⟩, .string ⟨#[]⟩, .int .i64 (xK : Int), .slice none 0 0]) ?_ rfl ⟨⟨(v : Int), ⟨#[]⟩, ⟨#[]⟩, 0, ⟨#[]⟩, 0, ⟨#[]⟩, ⟨#[]⟩, (xK : Int), []⟩, none, 0, 0, rfl, RdR.nil _ _ _, fun ad h => (by cases h), ⟨hw1.out, Nat.zero_le _, Nat.zero_le _, hw0.out, Nat.zero_le _, hw0.out, Nat.zero_le _, Nat.zero_le _, hwfK.out, fun r hr => (by cases hr)⟩, ?_, fun q hq => ?_, HGF.out⟩
        · simp [results, Tryd.results43, go_sem, kcz]
        · rw [HC.out, Option.map_map]
          have e : ((fun x : Cg × List UInt8 => x.2) ∘ fun l => ((⟨(v : Int), ⟨#[]⟩, ⟨#[]⟩, 0, ⟨#[]⟩, 0, ⟨#[]⟩, ⟨#[]⟩, (xK : Int), []⟩ : Cg), l)) = id := rfl
          rw [e, Option.map_id]
          exact HSF.out
        · rw [HC.out] at hq
          cases hst : (nx (nx s pInt) pInt) with
          | none => rw [hst] at hq; cases hq
          | some l => rw [hst] at hq; injection hq with hq; rw [← hq]
      | true =>
        go_upto_region 4 with fail
        generalize y2.setCell ⟨g, 1, none⟩ (.bool true) = y3 at *
        have kk := kf5
        have kq3 := Blk.cell kf5
        go_wp2_with fail
        go_at_call 42
        refine (numS w0 g M _ y3 HSA).mono ?_
        rintro e u4 ⟨xK, he, hxK, hSu, hp, hq⟩
        obtain rfl : e = .returned (.int .i64 (xK : Int)) := he
        have HPK := Lib.hid (pInt_ok hp)
        rw [nx_def, ← pInt_nx] at hSu
        have ku := heap_grown hq hn1.symm kb5
        have kru := heap_grown hq hn3.symm kr5
        have kfu := heap_grown hq hn2.symm kf5
        have hcu := Blk.cell ku
        have hfu := Blk.frozen ku
        have kw8 : (u4.setCell ⟨bc, 8, none⟩ (.int .i64 (xK : Int))).heap[bc]? = some (.cells #[.int .i64 (v : Int), .string ⟨#[]⟩, .string ⟨#[]⟩, .int .i64 0, .string ⟨#[]⟩, .int .i64 0, .string ⟨#[]⟩, .string ⟨#[]⟩, .int .i64 (xK : Int), .slice none 0 0] 31 (0, 0)) := heap_set_near _ _ _ _ _ _ ku
        have kbK : (u4.setCell ⟨bc, 8, none⟩ (.int .i64 (xK : Int))).heap[bc]? = _ := kw8
        have krK : (u4.setCell ⟨bc, 8, none⟩ (.int .i64 (xK : Int))).heap[W.heap.size]? = _ := ((heap_set_far _ _ _ _ _ hn5.symm).trans kru)
        have kfK : (u4.setCell ⟨bc, 8, none⟩ (.int .i64 (xK : Int))).heap[bf]? = _ := ((heap_set_far _ _ _ _ _ hn4.symm).trans kfu)
        have hSK := (hSu.set (i := 8) hn1 hbs.1 (.int .i64 (xK : Int)))
        have hGK := (grown_setN (i := 8) (HGA.trans hq) hbs.2.2 (.int .i64 (xK : Int)))
        clear kb5 kr5 kf5 HSA HGA ku kru kfu hq hSu hp kq3 kw8
        go_upto_region 16 with fail
        clear hcu hfu
        generalize (u4.setCell ⟨bc, 8, none⟩ (.int .i64 (xK : Int))) = y4 at *
        have kq4 := Blk.cell kfK
        obtain ⟨f1, f2, f3, f4, f5, f6⟩ := HFL.out
        have HC : Hid (s.bind pCg = ((nx (nx s pInt) pInt)).map fun l => ((⟨(v : Int), ⟨#[]⟩, ⟨#[]⟩, 0, ⟨#[]⟩, 0, ⟨#[]⟩, ⟨#[]⟩, (xK : Int), []⟩ : Cg), l)) := Lib.hid (by
          have hc := pCg_chain (s := s) (k := (v : Int)) (u := ⟨#[]⟩) (nt := ⟨#[]⟩) (tx := ⟨#[]⟩) (t := (0, ⟨#[]⟩)) (o := (0, ⟨#[]⟩)) (n := (xK : Int)) (hs := []) HP1.out HVV.out (by simp only [f1, f2, f3, f4, f5, f6, nx_on, nx_off]; exact ok_off) (by simp only [f1, f2, f3, f4, f5, f6, nx_on, nx_off]; exact ok_off) (by simp only [f1, f2, f3, f4, f5, f6, nx_on, nx_off]; exact ok_off) (by simp only [f1, f2, f3, f4, f5, f6, nx_on, nx_off]; exact ok_off) (by simp only [f1, f2, f3, f4, f5, f6, nx_on, nx_off]; exact ok_off) (by simp only [f1, f2, f3, f4, f5, f6, nx_on, nx_off]; exact ok_on HPK.out) (by simp only [f1, f2, f3, f4, f5, f6, nx_on, nx_off]; exact ok_off)
          simp only [f1, f2, f3, f4, f5, f6, nx_on, nx_off] at hc
          exact hc)
        clear f1 f2 f3 f4 f5 f6
        have HSE := Lib.hid hSK
        have HGE := Lib.hid hGK
        clear hSK hGK
        have kcb := Blk.cell kbK
        have kfr := Blk.frozen krK
        have kcr0 := Blk.cell krK
        have kz9 := ten_kq krK (.int .i64 (v : Int)) (.string ⟨#[]⟩) (.string ⟨#[]⟩) (.int .i64 0) (.string ⟨#[]⟩) (.int .i64 0) (.string ⟨#[]⟩) (.string ⟨#[]⟩) (.int .i64 (xK : Int)) (.slice none 0 0)
        have kcz := Blk.cell kz9
        have HSF := Lib.hid ((((((((((HSE.out.set (i := 0) hn3 hbs.2.1 (.int .i64 (v : Int))).set (i := 1) hn3 hbs.2.1 (.string ⟨#[]⟩)).set (i := 2) hn3 hbs.2.1 (.string ⟨#[]⟩)).set (i := 3) hn3 hbs.2.1 (.int .i64 0)).set (i := 4) hn3 hbs.2.1 (.string ⟨#[]⟩)).set (i := 5) hn3 hbs.2.1 (.int .i64 0)).set (i := 6) hn3 hbs.2.1 (.string ⟨#[]⟩)).set (i := 7) hn3 hbs.2.1 (.string ⟨#[]⟩)).set (i := 8) hn3 hbs.2.1 (.int .i64 (xK : Int))).set (i := 9) hn3 hbs.2.1 (.slice none 0 0))
        have HGF := Lib.hid (grown_setN (i := 9) (grown_setN (i := 8) (grown_setN (i := 7) (grown_setN (i := 6) (grown_setN (i := 5) (grown_setN (i := 4) (grown_setN (i := 3) (grown_setN (i := 2) (grown_setN (i := 1) (grown_setN (i := 0) HGE.out (Nat.le_refl _) (.int .i64 (v : Int))) (Nat.le_refl _) (.string ⟨#[]⟩)) (Nat.le_refl _) (.string ⟨#[]⟩)) (Nat.le_refl _) (.int .i64 0)) (Nat.le_refl _) (.string ⟨#[]⟩)) (Nat.le_refl _) (.int .i64 0)) (Nat.le_refl _) (.string ⟨#[]⟩)) (Nat.le_refl _) (.string ⟨#[]⟩)) (Nat.le_refl _) (.int .i64 (xK : Int))) (Nat.le_refl _) (.slice none 0 0))
        clear kz9
        go_wp2_with fail
        have hwfK : Hid (Lit.wf (.int .i64 (xK : Int)) = true) := Lib.hid (WalkArith.wf_i64 (by omega))
        refine bodyPost_ret (v := .agg #[.int .i64 (v : Int), .string ⟨#[]⟩, .string ⟨#[]⟩, .int .i64 0, .string ⟨#[]⟩, .int .i64 0, .string ⟨#[]⟩, .string ⟨#[]⟩, .int .i64 (xK : Int), .slice none 0 0]) ?_ rfl ⟨⟨(v : Int), ⟨#[]⟩, ⟨#[]⟩, 0, ⟨#[]⟩, 0, ⟨#[]⟩, ⟨#[]⟩, (xK : Int), []⟩, none, 0, 0, rfl, RdR.nil _ _ _, fun ad h => (by cases h), ⟨hw1.out, Nat.zero_le _, Nat.zero_le _, hw0.out, Nat.zero_le _, hw0.out, Nat.zero_le _, Nat.zero_le _, hwfK.out, fun r hr => (by cases hr)⟩, ?_, fun q hq => ?_, HGF.out⟩
        · simp [results, Tryd.results43, go_sem, kcz]
        · rw [HC.out, Option.map_map]
          have e : ((fun x : Cg × List UInt8 => x.2) ∘ fun l => ((⟨(v : Int), ⟨#[]⟩, ⟨#[]⟩, 0, ⟨#[]⟩, 0, ⟨#[]⟩, ⟨#[]⟩, (xK : Int), []⟩ : Cg), l)) = id := rfl
          rw [e, Option.map_id]
          exact HSF.out
        · rw [HC.out] at hq
          cases hst : (nx (nx s pInt) pInt) with
          | none => rw [hst] at hq; cases hq
          | some l => rw [hst] at hq; injection hq with hq; rw [← hq]
    · have hU : fU (v : Int) = true := by rw [hkd]; rfl
      have hN : fN (v : Int) = true := by rw [hkd]; rfl
      have hT : fT (v : Int) = true := by rw [hkd]; rfl
      have hO : fO (v : Int) = false := by rw [hkd]; rfl
      have hK : fK (v : Int) = true := by rw [hkd]; rfl
      have hH : fH (v : Int) = false := by rw [hkd]; rfl
      clear hkd
      rw [hU, hN, hT, hO, hK, hH] at kf5
      have kk := Blk.cell kf4
      rw [hU, hN, hT, hO, hK, hH] at kk
      have HFL := Lib.hid (And.intro hU (And.intro hN (And.intro hT (And.intro hO (And.intro hK hH)))))
      clear hU hN hT hO hK hH hkf kf4 kg
      cases bb with
      | false =>
        go_upto_region 4 with fail
        generalize y2.setCell ⟨g, 1, none⟩ (.bool false) = y3 at *
        have kk := kf5
        have kq3 := Blk.cell kf5
        go_wp2_with fail
        go_at_call 61
        refine (txtS w0 g M _ y3 HSA).mono ?_
        rintro e u4 ⟨xU, he, hxU, hSu, hp, hq⟩
        obtain rfl : e = .returned (.string xU) := he
        have HPU := Lib.hid hp
        rw [nx_def] at hSu
        have ku := heap_grown hq hn1.symm kb5
        have kru := heap_grown hq hn3.symm kr5
        have kfu := heap_grown hq hn2.symm kf5
        have hcu := Blk.cell ku
        have hfu := Blk.frozen ku
        have kw1 : (u4.setCell ⟨bc, 1, none⟩ (.string xU)).heap[bc]? = some (.cells #[.int .i64 (v : Int), .string xU, .string ⟨#[]⟩, .int .i64 0, .string ⟨#[]⟩, .int .i64 0, .string ⟨#[]⟩, .string ⟨#[]⟩, .int .i64 0, .slice none 0 0] 31 (0, 0)) := heap_set_near _ _ _ _ _ _ ku
        have kbU : (u4.setCell ⟨bc, 1, none⟩ (.string xU)).heap[bc]? = _ := kw1
        have krU : (u4.setCell ⟨bc, 1, none⟩ (.string xU)).heap[W.heap.size]? = _ := ((heap_set_far _ _ _ _ _ hn5.symm).trans kru)
        have kfU : (u4.setCell ⟨bc, 1, none⟩ (.string xU)).heap[bf]? = _ := ((heap_set_far _ _ _ _ _ hn4.symm).trans kfu)
        have hSU := (hSu.set (i := 1) hn1 hbs.1 (.string xU))
        have hGU := (grown_setN (i := 1) (HGA.trans hq) hbs.2.2 (.string xU))
        clear kb5 kr5 kf5 HSA HGA ku kru kfu hq hSu hp kq3 kw1
        go_upto_region 6 with fail
        clear hcu hfu
        generalize (u4.setCell ⟨bc, 1, none⟩ (.string xU)) = y4 at *
        have kq4 := Blk.cell kfU
        go_wp2_with fail
        go_at_call 61
        refine (txtS w0 g M _ y4 hSU).mono ?_
        rintro e u5 ⟨xN, he, hxN, hSu, hp, hq⟩
        obtain rfl : e = .returned (.string xN) := he
        have HPN := Lib.hid hp
        rw [nx_def] at hSu
        have ku := heap_grown hq hn1.symm kbU
        have kru := heap_grown hq hn3.symm krU
        have kfu := heap_grown hq hn2.symm kfU
        have hcu := Blk.cell ku
        have hfu := Blk.frozen ku
        have kw2 : (u5.setCell ⟨bc, 2, none⟩ (.string xN)).heap[bc]? = some (.cells #[.int .i64 (v : Int), .string xU, .string xN, .int .i64 0, .string ⟨#[]⟩, .int .i64 0, .string ⟨#[]⟩, .string ⟨#[]⟩, .int .i64 0, .slice none 0 0] 31 (0, 0)) := heap_set_near _ _ _ _ _ _ ku
        have kbN : (u5.setCell ⟨bc, 2, none⟩ (.string xN)).heap[bc]? = _ := kw2
        have krN : (u5.setCell ⟨bc, 2, none⟩ (.string xN)).heap[W.heap.size]? = _ := ((heap_set_far _ _ _ _ _ hn5.symm).trans kru)
        have kfN : (u5.setCell ⟨bc, 2, none⟩ (.string xN)).heap[bf]? = _ := ((heap_set_far _ _ _ _ _ hn4.symm).trans kfu)
        have hSN := (hSu.set (i := 2) hn1 hbs.1 (.string xN))
        have hGN := (grown_setN (i := 2) (hGU.trans hq) hbs.2.2 (.string xN))
        clear kbU krU kfU hSU hGU ku kru kfu hq hSu hp kq4 kw2
        go_upto_region 8 with fail
        clear hcu hfu
        generalize (u5.setCell ⟨bc, 2, none⟩ (.string xN)) = y5 at *
        have kq5 := Blk.cell kfN
        go_wp2_with fail
        go_at_call 62
        refine (ttlS w0 g M _ y5 hSN).mono ?_
        rintro e u6 ⟨xT, he, hxT, hSu, hp, hq⟩
        obtain rfl : e = .returned (.agg #[.int .i64 xT.1, .string xT.2]) := he
        have HPT := Lib.hid hp
        rw [nx_def] at hSu
        have ku := heap_grown hq hn1.symm kbN
        have kru := heap_grown hq hn3.symm krN
        have kfu := heap_grown hq hn2.symm kfN
        have hcu := Blk.cell ku
        have hfu := Blk.frozen ku
        have kw3 : (u6.setCell ⟨bc, 3, none⟩ (.int .i64 xT.1)).heap[bc]? = some (.cells #[.int .i64 (v : Int), .string xU, .string xN, .int .i64 xT.1, .string ⟨#[]⟩, .int .i64 0, .string ⟨#[]⟩, .string ⟨#[]⟩, .int .i64 0, .slice none 0 0] 31 (0, 0)) := heap_set_near _ _ _ _ _ _ ku
        have kw4 : ((u6.setCell ⟨bc, 3, none⟩ (.int .i64 xT.1)).setCell ⟨bc, 4, none⟩ (.string xT.2)).heap[bc]? = some (.cells #[.int .i64 (v : Int), .string xU, .string xN, .int .i64 xT.1, .string xT.2, .int .i64 0, .string ⟨#[]⟩, .string ⟨#[]⟩, .int .i64 0, .slice none 0 0] 31 (0, 0)) := heap_set_near _ _ _ _ _ _ kw3
        have kbT : ((u6.setCell ⟨bc, 3, none⟩ (.int .i64 xT.1)).setCell ⟨bc, 4, none⟩ (.string xT.2)).heap[bc]? = _ := kw4
        have krT : ((u6.setCell ⟨bc, 3, none⟩ (.int .i64 xT.1)).setCell ⟨bc, 4, none⟩ (.string xT.2)).heap[W.heap.size]? = _ := ((heap_set_far _ _ _ _ _ hn5.symm).trans ((heap_set_far _ _ _ _ _ hn5.symm).trans kru))
        have kfT : ((u6.setCell ⟨bc, 3, none⟩ (.int .i64 xT.1)).setCell ⟨bc, 4, none⟩ (.string xT.2)).heap[bf]? = _ := ((heap_set_far _ _ _ _ _ hn4.symm).trans ((heap_set_far _ _ _ _ _ hn4.symm).trans kfu))
        have hST := ((hSu.set (i := 3) hn1 hbs.1 (.int .i64 xT.1)).set (i := 4) hn1 hbs.1 (.string xT.2))
        have hGT := (grown_setN (i := 4) (grown_setN (i := 3) (hGN.trans hq) hbs.2.2 (.int .i64 xT.1)) hbs.2.2 (.string xT.2))
        clear kbN krN kfN hSN hGN ku kru kfu hq hSu hp kq5 kw3 kw4
        go_upto_region 10 with fail
        clear hcu hfu
        generalize ((u6.setCell ⟨bc, 3, none⟩ (.int .i64 xT.1)).setCell ⟨bc, 4, none⟩ (.string xT.2)) = y6 at *
        have kq6 := Blk.cell kfT
        go_wp2_with fail
        go_at_call 61
        refine (txtS w0 g M _ y6 hST).mono ?_
        rintro e u7 ⟨xX, he, hxX, hSu, hp, hq⟩
        obtain rfl : e = .returned (.string xX) := he
        have HPX := Lib.hid hp
        rw [nx_def] at hSu
        have ku := heap_grown hq hn1.symm kbT
        have kru := heap_grown hq hn3.symm krT
        have kfu := heap_grown hq hn2.symm kfT
        have hcu := Blk.cell ku
        have hfu := Blk.frozen ku
        have kw7 : (u7.setCell ⟨bc, 7, none⟩ (.string xX)).heap[bc]? = some (.cells #[.int .i64 (v : Int), .string xU, .string xN, .int .i64 xT.1, .string xT.2, .int .i64 0, .string ⟨#[]⟩, .string xX, .int .i64 0, .slice none 0 0] 31 (0, 0)) := heap_set_near _ _ _ _ _ _ ku
        have kbX : (u7.setCell ⟨bc, 7, none⟩ (.string xX)).heap[bc]? = _ := kw7
        have krX : (u7.setCell ⟨bc, 7, none⟩ (.string xX)).heap[W.heap.size]? = _ := ((heap_set_far _ _ _ _ _ hn5.symm).trans kru)
        have kfX : (u7.setCell ⟨bc, 7, none⟩ (.string xX)).heap[bf]? = _ := ((heap_set_far _ _ _ _ _ hn4.symm).trans kfu)
        have hSX := (hSu.set (i := 7) hn1 hbs.1 (.string xX))
        have hGX := (grown_setN (i := 7) (hGT.trans hq) hbs.2.2 (.string xX))
        clear kbT krT kfT hST hGT ku kru kfu hq hSu hp kq6 kw7
        go_upto_region 14 with fail
        clear hcu hfu
        generalize (u7.setCell ⟨bc, 7, none⟩ (.string xX)) = y7 at *
        have kq7 := Blk.cell kfX
        go_wp2_with fail
        go_at_call 42
        refine (numS w0 g M _ y7 hSX).mono ?_
        rintro e u8 ⟨xK, he, hxK, hSu, hp, hq⟩
        obtain rfl : e = .returned (.int .i64 (xK : Int)) := he
        have HPK := Lib.hid (pInt_ok hp)
        rw [nx_def, ← pInt_nx] at hSu
        have ku := heap_grown hq hn1.symm kbX
        have kru := heap_grown hq hn3.symm krX
        have kfu := heap_grown hq hn2.symm kfX
        have hcu := Blk.cell ku
        have hfu := Blk.frozen ku
        have kw8 : (u8.setCell ⟨bc, 8, none⟩ (.int .i64 (xK : Int))).heap[bc]? = some (.cells #[.int .i64 (v : Int), .string xU, .string xN, .int .i64 xT.1, .string xT.2, .int .i64 0, .string ⟨#[]⟩, .string xX, .int .i64 (xK : Int), .slice none 0 0] 31 (0, 0)) := heap_set_near _ _ _ _ _ _ ku
        have kbK : (u8.setCell ⟨bc, 8, none⟩ (.int .i64 (xK : Int))).heap[bc]? = _ := kw8
        have krK : (u8.setCell ⟨bc, 8, none⟩ (.int .i64 (xK : Int))).heap[W.heap.size]? = _ := ((heap_set_far _ _ _ _ _ hn5.symm).trans kru)
        have kfK : (u8.setCell ⟨bc, 8, none⟩ (.int .i64 (xK : Int))).heap[bf]? = _ := ((heap_set_far _ _ _ _ _ hn4.symm).trans kfu)
        have hSK := (hSu.set (i := 8) hn1 hbs.1 (.int .i64 (xK : Int)))
        have hGK := (grown_setN (i := 8) (hGX.trans hq) hbs.2.2 (.int .i64 (xK : Int)))
        clear kbX krX kfX hSX hGX ku kru kfu hq hSu hp kq7 kw8
        go_upto_region 16 with fail
        clear hcu hfu
        generalize (u8.setCell ⟨bc, 8, none⟩ (.int .i64 (xK : Int))) = y8 at *
        have kq8 := Blk.cell kfK
        obtain ⟨f1, f2, f3, f4, f5, f6⟩ := HFL.out
        have HC : Hid (s.bind pCg = ((nx (nx (nx (nx (nx (nx s pInt) pTxt) pTxt) pTtl) pTxt) pInt)).map fun l => ((⟨(v : Int), xU, xN, xT.1, xT.2, 0, ⟨#[]⟩, xX, (xK : Int), []⟩ : Cg), l)) := Lib.hid (by
          have hc := pCg_chain (s := s) (k := (v : Int)) (u := xU) (nt := xN) (tx := xX) (t := xT) (o := (0, ⟨#[]⟩)) (n := (xK : Int)) (hs := []) HP1.out HVV.out (by simp only [f1, f2, f3, f4, f5, f6, nx_on, nx_off]; exact ok_on HPU.out) (by simp only [f1, f2, f3, f4, f5, f6, nx_on, nx_off]; exact ok_on HPN.out) (by simp only [f1, f2, f3, f4, f5, f6, nx_on, nx_off]; exact ok_on HPT.out) (by simp only [f1, f2, f3, f4, f5, f6, nx_on, nx_off]; exact ok_off) (by simp only [f1, f2, f3, f4, f5, f6, nx_on, nx_off]; exact ok_on HPX.out) (by simp only [f1, f2, f3, f4, f5, f6, nx_on, nx_off]; exact ok_on HPK.out) (by simp only [f1, f2, f3, f4, f5, f6, nx_on, nx_off]; exact ok_off)
          simp only [f1, f2, f3, f4, f5, f6, nx_on, nx_off] at hc
          exact hc)
        clear f1 f2 f3 f4 f5 f6
        have HSE := Lib.hid hSK
        have HGE := Lib.hid hGK
        clear hSK hGK
        have kcb := Blk.cell kbK
        have kfr := Blk.frozen krK
        have kcr0 := Blk.cell krK
        have kz9 := ten_kq krK (.int .i64 (v : Int)) (.string xU) (.string xN) (.int .i64 xT.1) (.string xT.2) (.int .i64 0) (.string ⟨#[]⟩) (.string xX) (.int .i64 (xK : Int)) (.slice none 0 0)
        have kcz := Blk.cell kz9
        have HSF := Lib.hid ((((((((((HSE.out.set (i := 0) hn3 hbs.2.1 (.int .i64 (v : Int))).set (i := 1) hn3 hbs.2.1 (.string xU)).set (i := 2) hn3 hbs.2.1 (.string xN)).set (i := 3) hn3 hbs.2.1 (.int .i64 xT.1)).set (i := 4) hn3 hbs.2.1 (.string xT.2)).set (i := 5) hn3 hbs.2.1 (.int .i64 0)).set (i := 6) hn3 hbs.2.1 (.string ⟨#[]⟩)).set (i := 7) hn3 hbs.2.1 (.string xX)).set (i := 8) hn3 hbs.2.1 (.int .i64 (xK : Int))).set (i := 9) hn3 hbs.2.1 (.slice none 0 0))
        have HGF := Lib.hid (grown_setN (i := 9) (grown_setN (i := 8) (grown_setN (i := 7) (grown_setN (i := 6) (grown_setN (i := 5) (grown_setN (i := 4) (grown_setN (i := 3) (grown_setN (i := 2) (grown_setN (i := 1) (grown_setN (i := 0) HGE.out (Nat.le_refl _) (.int .i64 (v : Int))) (Nat.le_refl _) (.string xU)) (Nat.le_refl _) (.string xN)) (Nat.le_refl _) (.int .i64 xT.1)) (Nat.le_refl _) (.string xT.2)) (Nat.le_refl _) (.int .i64 0)) (Nat.le_refl _) (.string ⟨#[]⟩)) (Nat.le_refl _) (.string xX)) (Nat.le_refl _) (.int .i64 (xK : Int))) (Nat.le_refl _) (.slice none 0 0))
        clear kz9
        go_wp2_with fail
        have hwfT : Hid (Lit.wf (.int .i64 xT.1) = true) := Lib.hid (WalkArith.wf_i64 (by omega))
        have hwfK : Hid (Lit.wf (.int .i64 (xK : Int)) = true) := Lib.hid (WalkArith.wf_i64 (by omega))
        refine bodyPost_ret (v := .agg #[.int .i64 (v : Int), .string xU, .string xN, .int .i64 xT.1, .string xT.2, .int .i64 0, .string ⟨#[]⟩, .string xX, .int .i64 (xK : Int), .slice none 0 0]) ?_ rfl ⟨⟨(v : Int), xU, xN, xT.1, xT.2, 0, ⟨#[]⟩, xX, (xK : Int), []⟩, none, 0, 0, rfl, RdR.nil _ _ _, fun ad h => (by cases h), ⟨hw1.out, Nat.le_trans hxU HM.out, Nat.le_trans hxN HM.out, hwfT.out, Nat.le_trans hxT.2.2 HM.out, hw0.out, Nat.zero_le _, Nat.le_trans hxX HM.out, hwfK.out, fun r hr => (by cases hr)⟩, ?_, fun q hq => ?_, HGF.out⟩
        · simp [results, Tryd.results43, go_sem, kcz]
        · rw [HC.out, Option.map_map]
          have e : ((fun x : Cg × List UInt8 => x.2) ∘ fun l => ((⟨(v : Int), xU, xN, xT.1, xT.2, 0, ⟨#[]⟩, xX, (xK : Int), []⟩ : Cg), l)) = id := rfl
          rw [e, Option.map_id]
          exact HSF.out
        · rw [HC.out] at hq
          cases hst : (nx (nx (nx (nx (nx (nx s pInt) pTxt) pTxt) pTtl) pTxt) pInt) with
          | none => rw [hst] at hq; cases hq
          | some l => rw [hst] at hq; injection hq with hq; rw [← hq]
      | true =>
        go_upto_region 4 with fail
        generalize y2.setCell ⟨g, 1, none⟩ (.bool true) = y3 at *
        have kk := kf5
        have kq3 := Blk.cell kf5
        go_wp2_with fail
        go_at_call 61
        refine (txtS w0 g M _ y3 HSA).mono ?_
        rintro e u4 ⟨xU, he, hxU, hSu, hp, hq⟩
        obtain rfl : e = .returned (.string xU) := he
        have HPU := Lib.hid hp
        rw [nx_def] at hSu
        have ku := heap_grown hq hn1.symm kb5
        have kru := heap_grown hq hn3.symm kr5
        have kfu := heap_grown hq hn2.symm kf5
        have hcu := Blk.cell ku
        have hfu := Blk.frozen ku
        have kw1 : (u4.setCell ⟨bc, 1, none⟩ (.string xU)).heap[bc]? = some (.cells #[.int .i64 (v : Int), .string xU, .string ⟨#[]⟩, .int .i64 0, .string ⟨#[]⟩, .int .i64 0, .string ⟨#[]⟩, .string ⟨#[]⟩, .int .i64 0, .slice none 0 0] 31 (0, 0)) := heap_set_near _ _ _ _ _ _ ku
        have kbU : (u4.setCell ⟨bc, 1, none⟩ (.string xU)).heap[bc]? = _ := kw1
        have krU : (u4.setCell ⟨bc, 1, none⟩ (.string xU)).heap[W.heap.size]? = _ := ((heap_set_far _ _ _ _ _ hn5.symm).trans kru)
        have kfU : (u4.setCell ⟨bc, 1, none⟩ (.string xU)).heap[bf]? = _ := ((heap_set_far _ _ _ _ _ hn4.symm).trans kfu)
        have hSU := (hSu.set (i := 1) hn1 hbs.1 (.string xU))
        have hGU := (grown_setN (i := 1) (HGA.trans hq) hbs.2.2 (.string xU))
        clear kb5 kr5 kf5 HSA HGA ku kru kfu hq hSu hp kq3 kw1
        go_upto_region 6 with fail
        clear hcu hfu
        generalize (u4.setCell ⟨bc, 1, none⟩ (.string xU)) = y4 at *
        have kq4 := Blk.cell kfU
        go_wp2_with fail
        go_at_call 61
        refine (txtS w0 g M _ y4 hSU).mono ?_
        rintro e u5 ⟨xN, he, hxN, hSu, hp, hq⟩
        obtain rfl : e = .returned (.string xN) := he
        have HPN := Lib.hid hp
        rw [nx_def] at hSu
        have ku := heap_grown hq hn1.symm kbU
        have kru := heap_grown hq hn3.symm krU
        have kfu := heap_grown hq hn2.symm kfU
        have hcu := Blk.cell ku
        have hfu := Blk.frozen ku
        have kw2 : (u5.setCell ⟨bc, 2, none⟩ (.string xN)).heap[bc]? = some (.cells #[.int .i64 (v : Int), .string xU, .string xN, .int .i64 0, .string ⟨#[]⟩, .int .i64 0, .string ⟨#[]⟩, .string ⟨#[]⟩, .int .i64 0, .slice none 0 0] 31 (0, 0)) := heap_set_near _ _ _ _ _ _ ku
        have kbN : (u5.setCell ⟨bc, 2, none⟩ (.string xN)).heap[bc]? = _ := kw2
        have krN : (u5.setCell ⟨bc, 2, none⟩ (.string xN)).heap[W.heap.size]? = _ := ((heap_set_far _ _ _ _ _ hn5.symm).trans kru)
        have kfN : (u5.setCell ⟨bc, 2, none⟩ (.string xN)).heap[bf]? = _ := ((heap_set_far _ _ _ _ _ hn4.symm).trans kfu)
        have hSN := (hSu.set (i := 2) hn1 hbs.1 (.string xN))
        have hGN := (grown_setN (i := 2) (hGU.trans hq) hbs.2.2 (.string xN))
        clear kbU krU kfU hSU hGU ku kru kfu hq hSu hp kq4 kw2
        go_upto_region 8 with fail
        clear hcu hfu
        generalize (u5.setCell ⟨bc, 2, none⟩ (.string xN)) = y5 at *
        have kq5 := Blk.cell kfN
        go_wp2_with fail
        go_at_call 62
        refine (ttlS w0 g M _ y5 hSN).mono ?_
        rintro e u6 ⟨xT, he, hxT, hSu, hp, hq⟩
        obtain rfl : e = .returned (.agg #[.int .i64 xT.1, .string xT.2]) := he
        have HPT := Lib.hid hp
        rw [nx_def] at hSu
        have ku := heap_grown hq hn1.symm kbN
        have kru := heap_grown hq hn3.symm krN
        have kfu := heap_grown hq hn2.symm kfN
        have hcu := Blk.cell ku
        have hfu := Blk.frozen ku
        have kw3 : (u6.setCell ⟨bc, 3, none⟩ (.int .i64 xT.1)).heap[bc]? = some (.cells #[.int .i64 (v : Int), .string xU, .string xN, .int .i64 xT.1, .string ⟨#[]⟩, .int .i64 0, .string ⟨#[]⟩, .string ⟨#[]⟩, .int .i64 0, .slice none 0 0] 31 (0, 0)) := heap_set_near _ _ _ _ _ _ ku
        have kw4 : ((u6.setCell ⟨bc, 3, none⟩ (.int .i64 xT.1)).setCell ⟨bc, 4, none⟩ (.string xT.2)).heap[bc]? = some (.cells #[.int .i64 (v : Int), .string xU, .string xN, .int .i64 xT.1, .string xT.2, .int .i64 0, .string ⟨#[]⟩, .string ⟨#[]⟩, .int .i64 0, .slice none 0 0] 31 (0, 0)) := heap_set_near _ _ _ _ _ _ kw3
        have kbT : ((u6.setCell ⟨bc, 3, none⟩ (.int .i64 xT.1)).setCell ⟨bc, 4, none⟩ (.string xT.2)).heap[bc]? = _ := kw4
        have krT : ((u6.setCell ⟨bc, 3, none⟩ (.int .i64 xT.1)).setCell ⟨bc, 4, none⟩ (.string xT.2)).heap[W.heap.size]? = _ := ((heap_set_far _ _ _ _ _ hn5.symm).trans ((heap_set_far _ _ _ _ _ hn5.symm).trans kru))
        have kfT : ((u6.setCell ⟨bc, 3, none⟩ (.int .i64 xT.1)).setCell ⟨bc, 4, none⟩ (.string xT.2)).heap[bf]? = _ := ((heap_set_far _ _ _ _ _ hn4.symm).trans ((heap_set_far _ _ _ _ _ hn4.symm).trans kfu))
        have hST := ((hSu.set (i := 3) hn1 hbs.1 (.int .i64 xT.1)).set (i := 4) hn1 hbs.1 (.string xT.2))
        have hGT := (grown_setN (i := 4) (grown_setN (i := 3) (hGN.trans hq) hbs.2.2 (.int .i64 xT.1)) hbs.2.2 (.string xT.2))
        clear kbN krN kfN hSN hGN ku kru kfu hq hSu hp kq5 kw3 kw4
        go_upto_region 10 with fail
        clear hcu hfu
        generalize ((u6.setCell ⟨bc, 3, none⟩ (.int .i64 xT.1)).setCell ⟨bc, 4, none⟩ (.string xT.2)) = y6 at *
        have kq6 := Blk.cell kfT
        go_wp2_with fail
        go_at_call 61
        refine (txtS w0 g M _ y6 hST).mono ?_
        rintro e u7 ⟨xX, he, hxX, hSu, hp, hq⟩
        obtain rfl : e = .returned (.string xX) := he
        have HPX := Lib.hid hp
        rw [nx_def] at hSu
        have ku := heap_grown hq hn1.symm kbT
        have kru := heap_grown hq hn3.symm krT
        have kfu := heap_grown hq hn2.symm kfT
        have hcu := Blk.cell ku
        have hfu := Blk.frozen ku
        have kw7 : (u7.setCell ⟨bc, 7, none⟩ (.string xX)).heap[bc]? = some (.cells #[.int .i64 (v : Int), .string xU, .string xN, .int .i64 xT.1, .string xT.2, .int .i64 0, .string ⟨#[]⟩, .string xX, .int .i64 0, .slice none 0 0] 31 (0, 0)) := heap_set_near _ _ _ _ _ _ ku
        have kbX : (u7.setCell ⟨bc, 7, none⟩ (.string xX)).heap[bc]? = _ := kw7
        have krX : (u7.setCell ⟨bc, 7, none⟩ (.string xX)).heap[W.heap.size]? = _ := ((heap_set_far _ _ _ _ _ hn5.symm).trans kru)
        have kfX : (u7.setCell ⟨bc, 7, none⟩ (.string xX)).heap[bf]? = _ := ((heap_set_far _ _ _ _ _ hn4.symm).trans kfu)
        have hSX := (hSu.set (i := 7) hn1 hbs.1 (.string xX))
        have hGX := (grown_setN (i := 7) (hGT.trans hq) hbs.2.2 (.string xX))
        clear kbT krT kfT hST hGT ku kru kfu hq hSu hp kq6 kw7
        go_upto_region 14 with fail
        clear hcu hfu
        generalize (u7.setCell ⟨bc, 7, none⟩ (.string xX)) = y7 at *
        have kq7 := Blk.cell kfX
        go_wp2_with fail
        go_at_call 42
        refine (numS w0 g M _ y7 hSX).mono ?_
        rintro e u8 ⟨xK, he, hxK, hSu, hp, hq⟩
        obtain rfl : e = .returned (.int .i64 (xK : Int)) := he
        have HPK := Lib.hid (pInt_ok hp)
        rw [nx_def, ← pInt_nx] at hSu
        have ku := heap_grown hq hn1.symm kbX
        have kru := heap_grown hq hn3.symm krX
        have kfu := heap_grown hq hn2.symm kfX
        have hcu := Blk.cell ku
        have hfu := Blk.frozen ku
        have kw8 : (u8.setCell ⟨bc, 8, none⟩ (.int .i64 (xK : Int))).heap[bc]? = some (.cells #[.int .i64 (v : Int), .string xU, .string xN, .int .i64 xT.1, .string xT.2, .int .i64 0, .string ⟨#[]⟩, .string xX, .int .i64 (xK : Int), .slice none 0 0] 31 (0, 0)) := heap_set_near _ _ _ _ _ _ ku
        have kbK : (u8.setCell ⟨bc, 8, none⟩ (.int .i64 (xK : Int))).heap[bc]? = _ := kw8
        have krK : (u8.setCell ⟨bc, 8, none⟩ (.int .i64 (xK : Int))).heap[W.heap.size]? = _ := ((heap_set_far _ _ _ _ _ hn5.symm).trans kru)
        have kfK : (u8.setCell ⟨bc, 8, none⟩ (.int .i64 (xK : Int))).heap[bf]? = _ := ((heap_set_far _ _ _ _ _ hn4.symm).trans kfu)
        have hSK := (hSu.set (i := 8) hn1 hbs.1 (.int .i64 (xK : Int)))
        have hGK := (grown_setN (i := 8) (hGX.trans hq) hbs.2.2 (.int .i64 (xK : Int)))
        clear kbX krX kfX hSX hGX ku kru kfu hq hSu hp kq7 kw8
        go_upto_region 16 with fail
        clear hcu hfu
        generalize (u8.setCell ⟨bc, 8, none⟩ (.int .i64 (xK : Int))) = y8 at *
        have kq8 := Blk.cell kfK
        obtain ⟨f1, f2, f3, f4, f5, f6⟩ := HFL.out
        have HC : Hid (s.bind pCg = ((nx (nx (nx (nx (nx (nx s pInt) pTxt) pTxt) pTtl) pTxt) pInt)).map fun l => ((⟨(v : Int), xU, xN, xT.1, xT.2, 0, ⟨#[]⟩, xX, (xK : Int), []⟩ : Cg), l)) := Lib.hid (by
          have hc := pCg_chain (s := s) (k := (v : Int)) (u := xU) (nt := xN) (tx := xX) (t := xT) (o := (0, ⟨#[]⟩)) (n := (xK : Int)) (hs := []) HP1.out HVV.out (by simp only [f1, f2, f3, f4, f5, f6, nx_on, nx_off]; exact ok_on HPU.out) (by simp only [f1, f2, f3, f4, f5, f6, nx_on, nx_off]; exact ok_on HPN.out) (by simp only [f1, f2, f3, f4, f5, f6, nx_on, nx_off]; exact ok_on HPT.out) (by simp only [f1, f2, f3, f4, f5, f6, nx_on, nx_off]; exact ok_off) (by simp only [f1, f2, f3, f4, f5, f6, nx_on, nx_off]; exact ok_on HPX.out) (by simp only [f1, f2, f3, f4, f5, f6, nx_on, nx_off]; exact ok_on HPK.out) (by simp only [f1, f2, f3, f4, f5, f6, nx_on, nx_off]; exact ok_off)
          simp only [f1, f2, f3, f4, f5, f6, nx_on, nx_off] at hc
          exact hc)
        clear f1 f2 f3 f4 f5 f6
        have HSE := Lib.hid hSK
        have HGE := Lib.hid hGK
        clear hSK hGK
        have kcb := Blk.cell kbK
        have kfr := Blk.frozen krK
        have kcr0 := Blk.cell krK
        have kz9 := ten_kq krK (.int .i64 (v : Int)) (.string xU) (.string xN) (.int .i64 xT.1) (.string xT.2) (.int .i64 0) (.string ⟨#[]⟩) (.string xX) (.int .i64 (xK : Int)) (.slice none 0 0)
        have kcz := Blk.cell kz9
        have HSF := Lib.hid ((((((((((HSE.out.set (i := 0) hn3 hbs.2.1 (.int .i64 (v : Int))).set (i := 1) hn3 hbs.2.1 (.string xU)).set (i := 2) hn3 hbs.2.1 (.string xN)).set (i := 3) hn3 hbs.2.1 (.int .i64 xT.1)).set (i := 4) hn3 hbs.2.1 (.string xT.2)).set (i := 5) hn3 hbs.2.1 (.int .i64 0)).set (i := 6) hn3 hbs.2.1 (.string ⟨#[]⟩)).set (i := 7) hn3 hbs.2.1 (.string xX)).set (i := 8) hn3 hbs.2.1 (.int .i64 (xK : Int))).set (i := 9) hn3 hbs.2.1 (.slice none 0 0))
        have HGF := Lib.hid (grown_setN (i := 9) (grown_setN (i := 8) (grown_setN (i := 7) (grown_setN (i := 6) (grown_setN (i := 5) (grown_setN (i := 4) (grown_setN (i := 3) (grown_setN (i := 2) (grown_setN (i := 1) (grown_setN (i := 0) HGE.out (Nat.le_refl _) (.int .i64 (v : Int))) (Nat.le_refl _) (.string xU)) (Nat.le_refl _) (.string xN)) (Nat.le_refl _) (.int .i64 xT.1)) (Nat.le_refl _) (.string xT.2)) (Nat.le_refl _) (.int .i64 0)) (Nat.le_refl _) (.string ⟨#[]⟩)) (Nat.le_refl _) (.string xX)) (Nat.le_refl _) (.int .i64 (xK : Int))) (Nat.le_refl _) (.slice none 0 0))
        clear kz9
        go_wp2_with fail
        have hwfT : Hid (Lit.wf (.int .i64 xT.1) = true) := Lib.hid (WalkArith.wf_i64 (by omega))
        have hwfK : Hid (Lit.wf (.int .i64 (xK : Int)) = true) := Lib.hid (WalkArith.wf_i64 (by omega))
        refine bodyPost_ret (v := .agg #[.int .i64 (v : Int), .string xU, .string xN, .int .i64 xT.1, .string xT.2, .int .i64 0, .string ⟨#[]⟩, .string xX, .int .i64 (xK : Int), .slice none 0 0]) ?_ rfl ⟨⟨(v : Int), xU, xN, xT.1, xT.2, 0, ⟨#[]⟩, xX, (xK : Int), []⟩, none, 0, 0, rfl, RdR.nil _ _ _, fun ad h => (by cases h), ⟨hw1.out, Nat.le_trans hxU HM.out, Nat.le_trans hxN HM.out, hwfT.out, Nat.le_trans hxT.2.2 HM.out, hw0.out, Nat.zero_le _, Nat.le_trans hxX HM.out, hwfK.out, fun r hr => (by cases hr)⟩, ?_, fun q hq => ?_, HGF.out⟩
        · simp [results, Tryd.results43, go_sem, kcz]
        · rw [HC.out, Option.map_map]
          have e : ((fun x : Cg × List UInt8 => x.2) ∘ fun l => ((⟨(v : Int), xU, xN, xT.1, xT.2, 0, ⟨#[]⟩, xX, (xK : Int), []⟩ : Cg), l)) = id := rfl
          rw [e, Option.map_id]
          exact HSF.out
        · rw [HC.out] at hq
          cases hst : (nx (nx (nx (nx (nx (nx s pInt) pTxt) pTxt) pTtl) pTxt) pInt) with
          | none => rw [hst] at hq; cases hq
          | some l => rw [hst] at hq; injection hq with hq; rw [← hq]
    · have hU : fU (v : Int) = true := by rw [hkd]; rfl
      have hN : fN (v : Int) = false := by rw [hkd]; rfl
      have hT : fT (v : Int) = false := by rw [hkd]; rfl
      have hO : fO (v : Int) = false := by rw [hkd]; rfl
      have hK : fK (v : Int) = true := by rw [hkd]; rfl
      have hH : fH (v : Int) = false := by rw [hkd]; rfl
      clear hkd
      rw [hU, hN, hT, hO, hK, hH] at kf5
      have kk := Blk.cell kf4
      rw [hU, hN, hT, hO, hK, hH] at kk
      have HFL := Lib.hid (And.intro hU (And.intro hN (And.intro hT (And.intro hO (And.intro hK hH)))))
      clear hU hN hT hO hK hH hkf kf4 kg
      cases bb with
      | false =>
        go_upto_region 4 with fail
        generalize y2.setCell ⟨g, 1, none⟩ (.bool false) = y3 at *
        have kk := kf5
        have kq3 := Blk.cell kf5
        go_wp2_with fail
        go_at_call 61
        refine (txtS w0 g M _ y3 HSA).mono ?_
        rintro e u4 ⟨xU, he, hxU, hSu, hp, hq⟩
        obtain rfl : e = .returned (.string xU) := he
        have HPU := Lib.hid hp
        rw [nx_def] at hSu
        have ku := heap_grown hq hn1.symm kb5
        have kru := heap_grown hq hn3.symm kr5
        have kfu := heap_grown hq hn2.symm kf5
        have hcu := Blk.cell ku
        have hfu := Blk.frozen ku
        have kw1 : (u4.setCell ⟨bc, 1, none⟩ (.string xU)).heap[bc]? = some (.cells #[.int .i64 (v : Int), .string xU, .string ⟨#[]⟩, .int .i64 0, .string ⟨#[]⟩, .int .i64 0, .string ⟨#[]⟩, .string ⟨#[]⟩, .int .i64 0, .slice none 0 0] 31 (0, 0)) := heap_set_near _ _ _ _ _ _ ku
        have kbU : (u4.setCell ⟨bc, 1, none⟩ (.string xU)).heap[bc]? = _ := kw1
        have krU : (u4.setCell ⟨bc, 1, none⟩ (.string xU)).heap[W.heap.size]? = _ := ((heap_set_far _ _ _ _ _ hn5.symm).trans kru)
        have kfU : (u4.setCell ⟨bc, 1, none⟩ (.string xU)).heap[bf]? = _ := ((heap_set_far _ _ _ _ _ hn4.symm).trans kfu)
        have hSU := (hSu.set (i := 1) hn1 hbs.1 (.string xU))
        have hGU := (grown_setN (i := 1) (HGA.trans hq) hbs.2.2 (.string xU))
        clear kb5 kr5 kf5 HSA HGA ku kru kfu hq hSu hp kq3 kw1
        go_upto_region 6 with fail
        clear hcu hfu
        generalize (u4.setCell ⟨bc, 1, none⟩ (.string xU)) = y4 at *
        have kq4 := Blk.cell kfU
        go_wp2_with fail
        go_at_call 42
        refine (numS w0 g M _ y4 hSU).mono ?_
        rintro e u5 ⟨xK, he, hxK, hSu, hp, hq⟩
        obtain rfl : e = .returned (.int .i64 (xK : Int)) := he
        have HPK := Lib.hid (pInt_ok hp)
        rw [nx_def, ← pInt_nx] at hSu
        have ku := heap_grown hq hn1.symm kbU
        have kru := heap_grown hq hn3.symm krU
        have kfu := heap_grown hq hn2.symm kfU
        have hcu := Blk.cell ku
        have hfu := Blk.frozen ku
        have kw8 : (u5.setCell ⟨bc, 8, none⟩ (.int .i64 (xK : Int))).heap[bc]? = some (.cells #[.int .i64 (v : Int), .string xU, .string ⟨#[]⟩, .int .i64 0, .string ⟨#[]⟩, .int .i64 0, .string ⟨#[]⟩, .string ⟨#[]⟩, .int .i64 (xK : Int), .slice none 0 0] 31 (0, 0)) := heap_set_near _ _ _ _ _ _ ku
        have kbK : (u5.setCell ⟨bc, 8, none⟩ (.int .i64 (xK : Int))).heap[bc]? = _ := kw8
        have krK : (u5.setCell ⟨bc, 8, none⟩ (.int .i64 (xK : Int))).heap[W.heap.size]? = _ := ((heap_set_far _ _ _ _ _ hn5.symm).trans kru)
        have kfK : (u5.setCell ⟨bc, 8, none⟩ (.int .i64 (xK : Int))).heap[bf]? = _ := ((heap_set_far _ _ _ _ _ hn4.symm).trans kfu)
        have hSK := (hSu.set (i := 8) hn1 hbs.1 (.int .i64 (xK : Int)))
        have hGK := (grown_setN (i := 8) (hGU.trans hq) hbs.2.2 (.int .i64 (xK : Int)))
        clear kbU krU kfU hSU hGU ku kru kfu hq hSu hp kq4 kw8
        go_upto_region 16 with fail
        clear hcu hfu
        generalize (u5.setCell ⟨bc, 8, none⟩ (.int .i64 (xK : Int))) = y5 at *
        have kq5 := Blk.cell kfK
        obtain ⟨f1, f2, f3, f4, f5, f6⟩ := HFL.out
        have HC : Hid (s.bind pCg = ((nx (nx (nx s pInt) pTxt) pInt)).map fun l => ((⟨(v : Int), xU, ⟨#[]⟩, 0, ⟨#[]⟩, 0, ⟨#[]⟩, ⟨#[]⟩, (xK : Int), []⟩ : Cg), l)) := Lib.hid (by
          have hc := pCg_chain (s := s) (k := (v : Int)) (u := xU) (nt := ⟨#[]⟩) (tx := ⟨#[]⟩) (t := (0, ⟨#[]⟩)) (o := (0, ⟨#[]⟩)) (n := (xK : Int)) (hs := []) HP1.out HVV.out (by simp only [f1, f2, f3, f4, f5, f6, nx_on, nx_off]; exact ok_on HPU.out) (by simp only [f1, f2, f3, f4, f5, f6, nx_on, nx_off]; exact ok_off) (by simp only [f1, f2, f3, f4, f5, f6, nx_on, nx_off]; exact ok_off) (by simp only [f1, f2, f3, f4, f5, f6, nx_on, nx_off]; exact ok_off) (by simp only [f1, f2, f3, f4, f5, f6, nx_on, nx_off]; exact ok_off) (by simp only [f1, f2, f3, f4, f5, f6, nx_on, nx_off]; exact ok_on HPK.out) (by simp only [f1, f2, f3, f4, f5, f6, nx_on, nx_off]; exact ok_off)
          simp only [f1, f2, f3, f4, f5, f6, nx_on, nx_off] at hc
          exact hc)
        clear f1 f2 f3 f4 f5 f6
        have HSE := Lib.hid hSK
        have HGE := Lib.hid hGK
        clear hSK hGK
        have kcb := Blk.cell kbK
        have kfr := Blk.frozen krK
        have kcr0 := Blk.cell krK
        have kz9 := ten_kq krK (.int .i64 (v : Int)) (.string xU) (.string ⟨#[]⟩) (.int .i64 0) (.string ⟨#[]⟩) (.int .i64 0) (.string ⟨#[]⟩) (.string ⟨#[]⟩) (.int .i64 (xK : Int)) (.slice none 0 0)
        have kcz := Blk.cell kz9
        have HSF := Lib.hid ((((((((((HSE.out.set (i := 0) hn3 hbs.2.1 (.int .i64 (v : Int))).set (i := 1) hn3 hbs.2.1 (.string xU)).set (i := 2) hn3 hbs.2.1 (.string ⟨#[]⟩)).set (i := 3) hn3 hbs.2.1 (.int .i64 0)).set (i := 4) hn3 hbs.2.1 (.string ⟨#[]⟩)).set (i := 5) hn3 hbs.2.1 (.int .i64 0)).set (i := 6) hn3 hbs.2.1 (.string ⟨#[]⟩)).set (i := 7) hn3 hbs.2.1 (.string ⟨#[]⟩)).set (i := 8) hn3 hbs.2.1 (.int .i64 (xK : Int))).set (i := 9) hn3 hbs.2.1 (.slice none 0 0))
        have HGF := Lib.hid (grown_setN (i := 9) (grown_setN (i := 8) (grown_setN (i := 7) (grown_setN (i := 6) (grown_setN (i := 5) (grown_setN (i := 4) (grown_setN (i := 3) (grown_setN (i := 2) (grown_setN (i := 1) (grown_setN (i := 0) HGE.out (Nat.le_refl _) (.int .i64 (v : Int))) (Nat.le_refl _) (.string xU)) (Nat.le_refl _) (.string ⟨#[]⟩)) (Nat.le_refl _) (.int .i64 0)) (Nat.le_refl _) (.string ⟨#[]⟩)) (Nat.le_refl _) (.int .i64 0)) (Nat.le_refl _) (.string ⟨#[]⟩)) (Nat.le_refl _) (.string ⟨#[]⟩)) (Nat.le_refl _) (.int .i64 (xK : Int))) (Nat.le_refl _) (.slice none 0 0))
        clear kz9
        go_wp2_with fail
        have hwfK : Hid (Lit.wf (.int .i64 (xK : Int)) = true) := Lib.hid (WalkArith.wf_i64 (by omega))
        refine bodyPost_ret (v := .agg #[.int .i64 (v : Int), .string xU, .string ⟨#[]⟩, .int .i64 0, .string ⟨#[]⟩, .int .i64 0, .string ⟨#[]⟩, .string ⟨#[]⟩, .int .i64 (xK : Int), .slice none 0 0]) ?_ rfl ⟨⟨(v : Int), xU, ⟨#[]⟩, 0, ⟨#[]⟩, 0, ⟨#[]⟩, ⟨#[]⟩, (xK : Int), []⟩, none, 0, 0, rfl, RdR.nil _ _ _, fun ad h => (by cases h), ⟨hw1.out, Nat.le_trans hxU HM.out, Nat.zero_le _, hw0.out, Nat.zero_le _, hw0.out, Nat.zero_le _, Nat.zero_le _, hwfK.out, fun r hr => (by cases hr)⟩, ?_, fun q hq => ?_, HGF.out⟩
        · simp [results, Tryd.results43, go_sem, kcz]
        · rw [HC.out, Option.map_map]
          have e : ((fun x : Cg × List UInt8 => x.2) ∘ fun l => ((⟨(v : Int), xU, ⟨#[]⟩, 0, ⟨#[]⟩, 0, ⟨#[]⟩, ⟨#[]⟩, (xK : Int), []⟩ : Cg), l)) = id := rfl
          rw [e, Option.map_id]
          exact HSF.out
        · rw [HC.out] at hq
          cases hst : (nx (nx (nx s pInt) pTxt) pInt) with
          | none => rw [hst] at hq; cases hq
          | some l => rw [hst] at hq; injection hq with hq; rw [← hq]
      | true =>
        go_upto_region 4 with fail
        generalize y2.setCell ⟨g, 1, none⟩ (.bool true) = y3 at *
        have kk := kf5
        have kq3 := Blk.cell kf5
        go_wp2_with fail
        go_at_call 61
        refine (txtS w0 g M _ y3 HSA).mono ?_
        rintro e u4 ⟨xU, he, hxU, hSu, hp, hq⟩
        obtain rfl : e = .returned (.string xU) := he
        have HPU := Lib.hid hp
        rw [nx_def] at hSu
        have ku := heap_grown hq hn1.symm kb5
        have kru := heap_grown hq hn3.symm kr5
        have kfu := heap_grown hq hn2.symm kf5
        have hcu := Blk.cell ku
        have hfu := Blk.frozen ku
        have kw1 : (u4.setCell ⟨bc, 1, none⟩ (.string xU)).heap[bc]? = some (.cells #[.int .i64 (v : Int), .string xU, .string ⟨#[]⟩, .int .i64 0, .string ⟨#[]⟩, .int .i64 0, .string ⟨#[]⟩, .string ⟨#[]⟩, .int .i64 0, .slice none 0 0] 31 (0, 0)) := heap_set_near _ _ _ _ _ _ ku
        have kbU : (u4.setCell ⟨bc, 1, none⟩ (.string xU)).heap[bc]? = _ := kw1
        have krU : (u4.setCell ⟨bc, 1, none⟩ (.string xU)).heap[W.heap.size]? = _ := ((heap_set_far _ _ _ _ _ hn5.symm).trans kru)
        have kfU : (u4.setCell ⟨bc, 1, none⟩ (.string xU)).heap[bf]? = _ := ((heap_set_far _ _ _ _ _ hn4.symm).trans kfu)
        have hSU := (hSu.set (i := 1) hn1 hbs.1 (.string xU))
        have hGU := (grown_setN (i := 1) (HGA.trans hq) hbs.2.2 (.string xU))
        clear kb5 kr5 kf5 HSA HGA ku kru kfu hq hSu hp kq3 kw1
        go_upto_region 6 with fail
        clear hcu hfu
        generalize (u4.setCell ⟨bc, 1, none⟩ (.string xU)) = y4 at *
        have kq4 := Blk.cell kfU
        go_wp2_with fail
        go_at_call 42
        refine (numS w0 g M _ y4 hSU).mono ?_
        rintro e u5 ⟨xK, he, hxK, hSu, hp, hq⟩
        obtain rfl : e = .returned (.int .i64 (xK : Int)) := he
        have HPK := Lib.hid (pInt_ok hp)
        rw [nx_def, ← pInt_nx] at hSu
        have ku := heap_grown hq hn1.symm kbU
        have kru := heap_grown hq hn3.symm krU
        have kfu := heap_grown hq hn2.symm kfU
        have hcu := Blk.cell ku
        have hfu := Blk.frozen ku
        have kw8 : (u5.setCell ⟨bc, 8, none⟩ (.int .i64 (xK : Int))).heap[bc]? = some (.cells #[.int .i64 (v : Int), .string xU, .string ⟨#[]⟩, .int .i64 0, .string ⟨#[]⟩, .int .i64 0, .string ⟨#[]⟩, .string ⟨#[]⟩, .int .i64 (xK : Int), .slice none 0 0] 31 (0, 0)) := heap_set_near _ _ _ _ _ _ ku
        have kbK : (u5.setCell ⟨bc, 8, none⟩ (.int .i64 (xK : Int))).heap[bc]? = _ := kw8
        have krK : (u5.setCell ⟨bc, 8, none⟩ (.int .i64 (xK : Int))).heap[W.heap.size]? = _ := ((heap_set_far _ _ _ _ _ hn5.symm).trans kru)
        have kfK : (u5.setCell ⟨bc, 8, none⟩ (.int .i64 (xK : Int))).heap[bf]? = _ := ((heap_set_far _ _ _ _ _ hn4.symm).trans kfu)
        have hSK := (hSu.set (i := 8) hn1 hbs.1 (.int .i64 (xK : Int)))
        have hGK := (grown_setN (i := 8) (hGU.trans hq) hbs.2.2 (.int .i64 (xK : Int)))
        clear kbU krU kfU hSU hGU ku kru kfu hq hSu hp kq4 kw8
        go_upto_region 16 with fail
        clear hcu hfu
        generalize (u5.setCell ⟨bc, 8, none⟩ (.int .i64 (xK : Int))) = y5 at *
        have kq5 := Blk.cell kfK
        obtain ⟨f1, f2, f3, f4, f5, f6⟩ := HFL.out
        have HC : Hid (s.bind pCg = ((nx (nx (nx s pInt) pTxt) pInt)).map fun l => ((⟨(v : Int), xU, ⟨#[]⟩, 0, ⟨#[]⟩, 0, ⟨#[]⟩, ⟨#[]⟩, (xK : Int), []⟩ : Cg), l)) := Lib.hid (by
          have hc := pCg_chain (s := s) (k := (v : Int)) (u := xU) (nt := ⟨#[]⟩) (tx := ⟨#[]⟩) (t := (0, ⟨#[]⟩)) (o := (0, ⟨#[]⟩)) (n := (xK : Int)) (hs := []) HP1.out HVV.out (by simp only [f1, f2, f3, f4, f5, f6, nx_on, nx_off]; exact ok_on HPU.out) (by simp only [f1, f2, f3, f4, f5, f6, nx_on, nx_off]; exact ok_off) (by simp only [f1, f2, f3, f4, f5, f6, nx_on, nx_off]; exact ok_off) (by simp only [f1, f2, f3, f4, f5, f6, nx_on, nx_off]; exact ok_off) (by simp only [f1, f2, f3, f4, f5, f6, nx_on, nx_off]; exact ok_off) (by simp only [f1, f2, f3, f4, f5, f6, nx_on, nx_off]; exact ok_on HPK.out) (by simp only [f1, f2, f3, f4, f5, f6, nx_on, nx_off]; exact ok_off)
          simp only [f1, f2, f3, f4, f5, f6, nx_on, nx_off] at hc
          exact hc)
        clear f1 f2 f3 f4 f5 f6
        have HSE := Lib.hid hSK
        have HGE := Lib.hid hGK
        clear hSK hGK
        have kcb := Blk.cell kbK
        have kfr := Blk.frozen krK
        have kcr0 := Blk.cell krK
        have kz9 := ten_kq krK (.int .i64 (v : Int)) (.string xU) (.string ⟨#[]⟩) (.int .i64 0) (.string ⟨#[]⟩) (.int .i64 0) (.string ⟨#[]⟩) (.string ⟨#[]⟩) (.int .i64 (xK : Int)) (.slice none 0 0)
        have kcz := Blk.cell kz9
        have HSF := Lib.hid ((((((((((HSE.out.set (i := 0) hn3 hbs.2.1 (.int .i64 (v : Int))).set (i := 1) hn3 hbs.2.1 (.string xU)).set (i := 2) hn3 hbs.2.1 (.string ⟨#[]⟩)).set (i := 3) hn3 hbs.2.1 (.int .i64 0)).set (i := 4) hn3 hbs.2.1 (.string ⟨#[]⟩)).set (i := 5) hn3 hbs.2.1 (.int .i64 0)).set (i := 6) hn3 hbs.2.1 (.string ⟨#[]⟩)).set (i := 7) hn3 hbs.2.1 (.string ⟨#[]⟩)).set (i := 8) hn3 hbs.2.1 (.int .i64 (xK : Int))).set (i := 9) hn3 hbs.2.1 (.slice none 0 0))
        have HGF := Lib.hid (grown_setN (i := 9) (grown_setN (i := 8) (grown_setN (i := 7) (grown_setN (i := 6) (grown_setN (i := 5) (grown_setN (i := 4) (grown_setN (i := 3) (grown_setN (i := 2) (grown_setN (i := 1) (grown_setN (i := 0) HGE.out (Nat.le_refl _) (.int .i64 (v : Int))) (Nat.le_refl _) (.string xU)) (Nat.le_refl _) (.string ⟨#[]⟩)) (Nat.le_refl _) (.int .i64 0)) (Nat.le_refl _) (.string ⟨#[]⟩)) (Nat.le_refl _) (.int .i64 0)) (Nat.le_refl _) (.string ⟨#[]⟩)) (Nat.le_refl _) (.string ⟨#[]⟩)) (Nat.le_refl _) (.int .i64 (xK : Int))) (Nat.le_refl _) (.slice none 0 0))
        clear kz9
        go_wp2_with fail
        have hwfK : Hid (Lit.wf (.int .i64 (xK : Int)) = true) := Lib.hid (WalkArith.wf_i64 (by omega))
        refine bodyPost_ret (v := .agg #[.int .i64 (v : Int), .string xU, .string ⟨#[]⟩, .int .i64 0, .string ⟨#[]⟩, .int .i64 0, .string ⟨#[]⟩, .string ⟨#[]⟩, .int .i64 (xK : Int), .slice none 0 0]) ?_ rfl ⟨⟨(v : Int), xU, ⟨#[]⟩, 0, ⟨#[]⟩, 0, ⟨#[]⟩, ⟨#[]⟩, (xK : Int), []⟩, none, 0, 0, rfl, RdR.nil _ _ _, fun ad h => (by cases h), ⟨hw1.out, Nat.le_trans hxU HM.out, Nat.zero_le _, hw0.out, Nat.zero_le _, hw0.out, Nat.zero_le _, Nat.zero_le _, hwfK.out, fun r hr => (by cases hr)⟩, ?_, fun q hq => ?_, HGF.out⟩
        · simp [results, Tryd.results43, go_sem, kcz]
        · rw [HC.out, Option.map_map]
          have e : ((fun x : Cg × List UInt8 => x.2) ∘ fun l => ((⟨(v : Int), xU, ⟨#[]⟩, 0, ⟨#[]⟩, 0, ⟨#[]⟩, ⟨#[]⟩, (xK : Int), []⟩ : Cg), l)) = id := rfl
          rw [e, Option.map_id]
          exact HSF.out
        · rw [HC.out] at hq
          cases hst : (nx (nx (nx s pInt) pTxt) pInt) with
          | none => rw [hst] at hq; cases hq
          | some l => rw [hst] at hq; injection hq with hq; rw [← hq]
end Go.Proofs.YtbeijpajodgpeaaDoor
