/- The walk of the reference's change reader. Printed by gen_c26.py -/
import Derived.Test.YtbeijpajodgpeaaDoorC24
namespace Go.Proofs.YtbeijpajodgpeaaDoor
open Go.RowKit
set_option linter.unusedSimpArgs false
set_option linter.unusedVariables false

/-- what a change's reading leaves at the reference: if nothing can be read, nothing is left, or the change is not valid -/
def RChR (t : Nat) (w0 W : World) (g M : Nat) (s : Option (List UInt8)) (e : Ending) (W' : World) : Prop := ∃ (c : Cg) (A : Option Addr) (n cp : Nat) (s' : Option (List UInt8)), e = .returned (cval c A n cp) ∧ RdR RV 6 W' A n cp c.hs ∧ TyB W' 67 A ∧ CgWf c ∧ Sta t w0 W' g M s' ∧ ((s' = (s.bind pCg).map (·.2) ∧ ∀ q, s.bind pCg = some q → c = q.1) ∨ (s.bind pCg = none ∧ cv c ≠ 0)) ∧ W.grownBy W' (some g)
theorem chain_left {s s' : Option (List UInt8)} {c : Cg} (h : s.bind pCg = s'.map fun l => (c, l)) : (s' = (s.bind pCg).map (·.2) ∧ ∀ q, s.bind pCg = some q → c = q.1) ∨ (s.bind pCg = none ∧ cv c ≠ 0) := by
  refine .inl ⟨?_, fun q hq => ?_⟩
  · rw [h]; cases s' <;> rfl
  · rw [h] at hq
    cases s' with
    | none => cases hq
    | some l => injection hq with hq; rw [← hq]
theorem cv_unknown {c : Cg} (h : fV c.kd = false) : cv c ≠ 0 := fun e => by have := (cv_ok e).1; rw [h] at this; cases this
theorem cv_long {c : Cg} (hk : c.kd = 5) (h : c.hs.length = 41) : cv c ≠ 0 := fun e => by
  have h1 := (cv_ok e).2.2.1
  simp only [rng, hk, Bool.and_eq_true] at h1
  have h2 : hst c.hs = true := h1.2
  have := (hst_all h2).2.1
  omega
theorem pCg_hist {s : Option (List UInt8)} {u : ByteArray} {t : Int × ByteArray} {L : List Rv} (h0 : ∀ q, s.bind pInt = some q → (5 : Int) = q.1)
    (h1 : ∀ q, (nx s pInt).bind pTxt = some q → u = q.1) (h3 : ∀ q, (nx (nx s pInt) pTxt).bind pTtl = some q → t = q.1)
    (h7 : ∀ q, (nx (nx (nx s pInt) pTxt) pTtl).bind pHst = some q → L = q.1) :
    s.bind pCg = (nx (nx (nx (nx s pInt) pTxt) pTtl) pHst).map fun l => ((⟨5, u, ⟨#[]⟩, t.1, t.2, 0, ⟨#[]⟩, ⟨#[]⟩, 0, L⟩ : Cg), l) := by
  have f1 : fU 5 = true := rfl
  have f2 : fN 5 = false := rfl
  have f3 : fT 5 = true := rfl
  have f4 : fO 5 = false := rfl
  have f5 : fK 5 = false := rfl
  have f6 : fH 5 = true := rfl
  have hc := pCg_chain (s := s) (k := 5) (u := u) (nt := ⟨#[]⟩) (tx := ⟨#[]⟩) (t := t) (o := (0, ⟨#[]⟩)) (n := 0) (hs := L) h0 rfl (by simp only [f1, f2, f3, f4, f5, f6, nx_on, nx_off]; exact ok_on h1) (by simp only [f1, f2, f3, f4, f5, f6, nx_on, nx_off]; exact ok_off) (by simp only [f1, f2, f3, f4, f5, f6, nx_on, nx_off]; exact ok_on h3) (by simp only [f1, f2, f3, f4, f5, f6, nx_on, nx_off]; exact ok_off) (by simp only [f1, f2, f3, f4, f5, f6, nx_on, nx_off]; exact ok_off) (by simp only [f1, f2, f3, f4, f5, f6, nx_on, nx_off]; exact ok_off) (by simp only [f1, f2, f3, f4, f5, f6, nx_on, nx_off]; exact ok_on h7)
  simp only [f1, f2, f3, f4, f5, f6, nx_on, nx_off] at hc
  exact hc
theorem hist_end {s5 si : Option (List UInt8)} {v i : Nat} {L : List Rv} (hP : (v ≤ 40 ∧ s5.bind pHst = (si.bind (pRs i (v - i))).map fun b => (L ++ b.1, b.2)) ∨ (40 < v ∧ s5.bind pHst = none)) (hi : i ≤ v) (hl : L.length = i) (h41 : i ≤ 41) (hE : si = none ∨ i = v ∨ i = 41) :
    (si = nx s5 pHst ∧ ∀ q, s5.bind pHst = some q → L = q.1) ∨ (s5.bind pHst = none ∧ L.length = 41) := by
  rcases hP with ⟨hv, hp⟩ | ⟨hv, hp⟩
  · cases si with
    | none =>
      have e : s5.bind pHst = none := by rw [hp]; rfl
      exact .inl ⟨by unfold nx; rw [e]; rfl, fun q hq => by rw [e] at hq; cases hq⟩
    | some l =>
      have hiv : i = v := by
        rcases hE with h | h | h
        · cases h
        · exact h
        · omega
      have e : s5.bind pHst = some (L, l) := by rw [hp, hiv, Nat.sub_self]; simp [pRs]
      exact .inl ⟨by unfold nx; rw [e]; rfl, fun q hq => by rw [e] at hq; injection hq with hq; rw [← hq]⟩
  · rcases hE with h | h | h
    · exact .inl ⟨by unfold nx; rw [h, hp]; rfl, fun q hq => by rw [hp] at hq; cases hq⟩
    · exact .inr ⟨hp, by omega⟩
    · exact .inr ⟨hp, by omega⟩
theorem hist_fin {s si : Option (List UInt8)} {u : ByteArray} {t : Int × ByteArray} {L : List Rv} (h0 : ∀ q, s.bind pInt = some q → (5 : Int) = q.1)
    (h1 : ∀ q, (nx s pInt).bind pTxt = some q → u = q.1) (h3 : ∀ q, (nx (nx s pInt) pTxt).bind pTtl = some q → t = q.1)
    (hE : (si = nx (nx (nx (nx s pInt) pTxt) pTtl) pHst ∧ ∀ q, (nx (nx (nx s pInt) pTxt) pTtl).bind pHst = some q → L = q.1) ∨ ((nx (nx (nx s pInt) pTxt) pTtl).bind pHst = none ∧ L.length = 41)) :
    (si = (s.bind pCg).map (·.2) ∧ ∀ q, s.bind pCg = some q → (⟨5, u, ⟨#[]⟩, t.1, t.2, 0, ⟨#[]⟩, ⟨#[]⟩, 0, L⟩ : Cg) = q.1) ∨ (s.bind pCg = none ∧ cv ⟨5, u, ⟨#[]⟩, t.1, t.2, 0, ⟨#[]⟩, ⟨#[]⟩, 0, L⟩ ≠ 0) := by
  rcases hE with ⟨e, h7⟩ | ⟨e, hl⟩
  · subst e
    exact chain_left (pCg_hist h0 h1 h3 h7)
  · refine .inr ⟨?_, cv_long rfl hl⟩
    rw [pCg_hist (L := L) h0 h1 h3 (fun q hq => by rw [e] at hq; cases hq)]
    unfold nx
    unfold nx at e
    rw [e]; rfl

set_option maxRecDepth 100000 in
set_option maxHeartbeats 16000000 in
theorem rrdcg_any (w0 : World) (g M : Nat) (s : Option (List UInt8)) (W : World) (h : Sta 98 w0 W g M s) (hM : M ≤ maxLen) :
    Calls Tryd.prog 60 #[.pointer (some ⟨g, 0, none⟩)] W (RChR 98 w0 W g M s) := by
  obtain ⟨i0, hi0, hz0, hz1, hz2⟩ := info_parts rev_info
  have hgl := h.lt
  have hgb := h.base.1
  have HM := Lib.hid hM
  clear hM
  have kr0 : (W.alloc (.cells #[.int .i64 0, .string ⟨#[]⟩, .string ⟨#[]⟩, .int .i64 0, .string ⟨#[]⟩, .int .i64 0, .string ⟨#[]⟩, .string ⟨#[]⟩, .int .i64 0, .slice none 0 0] 31)).heap[W.heap.size]? = some (.cells #[.int .i64 0, .string ⟨#[]⟩, .string ⟨#[]⟩, .int .i64 0, .string ⟨#[]⟩, .int .i64 0, .string ⟨#[]⟩, .string ⟨#[]⟩, .int .i64 0, .slice none 0 0] 31 (0, 0)) := heap_new rfl
  have hS0 := h.call ((Below.refl _ _).alloc (Nat.le_refl _) (.cells #[.int .i64 0, .string ⟨#[]⟩, .string ⟨#[]⟩, .int .i64 0, .string ⟨#[]⟩, .int .i64 0, .string ⟨#[]⟩, .string ⟨#[]⟩, .int .i64 0, .slice none 0 0] 31) : Below W.heap.size W (W.alloc (.cells #[.int .i64 0, .string ⟨#[]⟩, .string ⟨#[]⟩, .int .i64 0, .string ⟨#[]⟩, .int .i64 0, .string ⟨#[]⟩, .string ⟨#[]⟩, .int .i64 0, .slice none 0 0] 31)))
  have hg0 : W.grownBy (W.alloc (.cells #[.int .i64 0, .string ⟨#[]⟩, .string ⟨#[]⟩, .int .i64 0, .string ⟨#[]⟩, .int .i64 0, .string ⟨#[]⟩, .string ⟨#[]⟩, .int .i64 0, .slice none 0 0] 31)) (some g) := World.grownBy_alloc W _ _
  have hub : ∀ b : Bool, (some undef = some (Value.bool b)) = False := fun b => by simp [undef]
  have hub2 : ∀ b : Bool, (undef = Value.bool b) = False := fun b => by simp [undef]
  clear h
  go_enter Tryd.func60, Tryd.ntmps60
  go_wp2_with fail
  generalize W.alloc (.cells #[.int .i64 0, .string ⟨#[]⟩, .string ⟨#[]⟩, .int .i64 0, .string ⟨#[]⟩, .int .i64 0, .string ⟨#[]⟩, .string ⟨#[]⟩, .int .i64 0, .slice none 0 0] 31) = y0 at *
  go_at_call 59
  refine (rnumS w0 g M s y0 hS0).mono ?_
  rintro e u1 ⟨v, he, hv, hS1, hp1, hq1⟩
  obtain rfl : e = .returned (.int .i64 (v : Int)) := he
  have kr1 := heap_grown hq1 (by omega) kr0
  have hg1 := hg0.trans hq1
  have HP0 := pInt_ok hp1
  rw [nx_def, ← pInt_nx] at hS1
  clear hS0 kr0 hg0 hq1 hp1
  go_upto_region 2 with fail
  have hal : Below u1.heap.size u1 (u1.alloc (.cells #[.int .i64 (v : Int), .string ⟨#[]⟩, .string ⟨#[]⟩, .int .i64 0, .string ⟨#[]⟩, .int .i64 0, .string ⟨#[]⟩, .string ⟨#[]⟩, .int .i64 0, .slice none 0 0] 31)) := (Below.refl _ _).alloc (Nat.le_refl _) _
  have kb1 : (u1.alloc (.cells #[.int .i64 (v : Int), .string ⟨#[]⟩, .string ⟨#[]⟩, .int .i64 0, .string ⟨#[]⟩, .int .i64 0, .string ⟨#[]⟩, .string ⟨#[]⟩, .int .i64 0, .slice none 0 0] 31)).heap[u1.heap.size]? = some (.cells #[.int .i64 (v : Int), .string ⟨#[]⟩, .string ⟨#[]⟩, .int .i64 0, .string ⟨#[]⟩, .int .i64 0, .string ⟨#[]⟩, .string ⟨#[]⟩, .int .i64 0, .slice none 0 0] 31 (0, 0)) := heap_new rfl
  have kr2 := heap_call hal kr1
  have hS2 := hS1.call hal
  have hg2 := hg1.trans (World.grownBy_alloc u1 (.cells #[.int .i64 (v : Int), .string ⟨#[]⟩, .string ⟨#[]⟩, .int .i64 0, .string ⟨#[]⟩, .int .i64 0, .string ⟨#[]⟩, .string ⟨#[]⟩, .int .i64 0, .slice none 0 0] 31) (some g))
  have hgc := hS1.lt
  have hrc := Blk.lt kr1
  have hwz := hg1.size
  clear hal kr1 hS1 hg1
  generalize u1.alloc (.cells #[.int .i64 (v : Int), .string ⟨#[]⟩, .string ⟨#[]⟩, .int .i64 0, .string ⟨#[]⟩, .int .i64 0, .string ⟨#[]⟩, .string ⟨#[]⟩, .int .i64 0, .slice none 0 0] 31) = y3 at *
  generalize u1.heap.size = bc at *
  have hn1 : g ≠ bc := by omega
  have hn3 : g ≠ W.heap.size := by omega
  have hn5 : bc ≠ W.heap.size := by omega
  have hw0 : Hid (Lit.wf (.int .i64 0) = true) := Lib.hid (by decide)
  have hbs : w0.heap.size ≤ bc ∧ w0.heap.size ≤ W.heap.size ∧ W.heap.size ≤ bc := by omega
  obtain ⟨k, hk⟩ : ∃ k : Int, k = (v : Int) := ⟨_, rfl⟩
  have hkr : 0 ≤ k ∧ k < 34359738368 := by omega
  rw [← hk] at kb1 HP0
  try rw [← hk]
  have HP1 := Lib.hid HP0
  clear HP0 hk hv
  have hw1 : Hid (Lit.wf (.int .i64 k) = true) := Lib.hid (WalkArith.wf_i64 (by omega))
  have HKK : Hid (k = 1 ∨ (k ≠ 1 ∧ k ≠ 4 ∧ k ≠ 5 ∧ k ≠ 6 ∧ k ≠ 9 ∧ k ≠ 10) ∨ k = 4 ∨ k = 5 ∨ k = 6 ∨ k = 9 ∨ k = 10) := Lib.hid (by omega)
  clear hkr
  rcases HKK.out with hkd | hkd | hkd | hkd | hkd | hkd | hkd
  · subst hkd
    clear HKK
    have kq3 := Blk.cell kb1
    go_wp2_with fail
    go_at_call 74
    refine (rtxtS w0 g M _ y3 hS2).mono ?_
    rintro e u4 ⟨xU, he, hxU, hSu, hp, hq⟩
    obtain rfl : e = .returned (.string xU) := he
    have HPU := Lib.hid hp
    rw [nx_def] at hSu
    have ku := heap_grown hq hn1.symm kb1
    have kru := heap_grown hq hn3.symm kr2
    clear kq3
    have hcu := Blk.cell ku
    have hfu := Blk.frozen ku
    have kw1 : (u4.setCell ⟨bc, 1, none⟩ (.string xU)).heap[bc]? = some (.cells #[.int .i64 1, .string xU, .string ⟨#[]⟩, .int .i64 0, .string ⟨#[]⟩, .int .i64 0, .string ⟨#[]⟩, .string ⟨#[]⟩, .int .i64 0, .slice none 0 0] 31 (0, 0)) := heap_set_near _ _ _ _ _ _ ku
    have kbU : (u4.setCell ⟨bc, 1, none⟩ (.string xU)).heap[bc]? = _ := kw1
    have krU : (u4.setCell ⟨bc, 1, none⟩ (.string xU)).heap[W.heap.size]? = _ := ((heap_set_far _ _ _ _ _ hn5.symm).trans kru)
    have hSU := (hSu.set (i := 1) hn1 hbs.1 (.string xU))
    have hGU := (grown_setN (i := 1) (hg2.trans hq) hbs.2.2 (.string xU))
    clear kb1 kr2 hS2 hg2 ku kru hq hSu hp kw1
    go_upto_region 4 with fail
    clear hcu hfu
    generalize (u4.setCell ⟨bc, 1, none⟩ (.string xU)) = y4 at *
    have kq4 := Blk.cell kbU
    go_wp2_with fail
    go_at_call 74
    refine (rtxtS w0 g M _ y4 hSU).mono ?_
    rintro e u5 ⟨xN, he, hxN, hSu, hp, hq⟩
    obtain rfl : e = .returned (.string xN) := he
    have HPN := Lib.hid hp
    rw [nx_def] at hSu
    have ku := heap_grown hq hn1.symm kbU
    have kru := heap_grown hq hn3.symm krU
    clear kq4
    have hcu := Blk.cell ku
    have hfu := Blk.frozen ku
    have kw2 : (u5.setCell ⟨bc, 2, none⟩ (.string xN)).heap[bc]? = some (.cells #[.int .i64 1, .string xU, .string xN, .int .i64 0, .string ⟨#[]⟩, .int .i64 0, .string ⟨#[]⟩, .string ⟨#[]⟩, .int .i64 0, .slice none 0 0] 31 (0, 0)) := heap_set_near _ _ _ _ _ _ ku
    have kbN : (u5.setCell ⟨bc, 2, none⟩ (.string xN)).heap[bc]? = _ := kw2
    have krN : (u5.setCell ⟨bc, 2, none⟩ (.string xN)).heap[W.heap.size]? = _ := ((heap_set_far _ _ _ _ _ hn5.symm).trans kru)
    have hSN := (hSu.set (i := 2) hn1 hbs.1 (.string xN))
    have hGN := (grown_setN (i := 2) (hGU.trans hq) hbs.2.2 (.string xN))
    clear kbU krU hSU hGU ku kru hq hSu hp kw2
    go_upto_region 6 with fail
    clear hcu hfu
    generalize (u5.setCell ⟨bc, 2, none⟩ (.string xN)) = y5 at *
    have kq5 := Blk.cell kbN
    go_wp2_with fail
    go_at_call 75
    refine (rttlS w0 g M _ y5 hSN).mono ?_
    rintro e u6 ⟨xT, he, hxT, hSu, hp, hq⟩
    obtain rfl : e = .returned (.agg #[.int .i64 xT.1, .string xT.2]) := he
    have HPT := Lib.hid hp
    rw [nx_def] at hSu
    have ku := heap_grown hq hn1.symm kbN
    have kru := heap_grown hq hn3.symm krN
    clear kq5
    have hcu := Blk.cell ku
    have hfu := Blk.frozen ku
    have kw3 : (u6.setCell ⟨bc, 3, none⟩ (.int .i64 xT.1)).heap[bc]? = some (.cells #[.int .i64 1, .string xU, .string xN, .int .i64 xT.1, .string ⟨#[]⟩, .int .i64 0, .string ⟨#[]⟩, .string ⟨#[]⟩, .int .i64 0, .slice none 0 0] 31 (0, 0)) := heap_set_near _ _ _ _ _ _ ku
    have kw4 : ((u6.setCell ⟨bc, 3, none⟩ (.int .i64 xT.1)).setCell ⟨bc, 4, none⟩ (.string xT.2)).heap[bc]? = some (.cells #[.int .i64 1, .string xU, .string xN, .int .i64 xT.1, .string xT.2, .int .i64 0, .string ⟨#[]⟩, .string ⟨#[]⟩, .int .i64 0, .slice none 0 0] 31 (0, 0)) := heap_set_near _ _ _ _ _ _ kw3
    have kbT : ((u6.setCell ⟨bc, 3, none⟩ (.int .i64 xT.1)).setCell ⟨bc, 4, none⟩ (.string xT.2)).heap[bc]? = _ := kw4
    have krT : ((u6.setCell ⟨bc, 3, none⟩ (.int .i64 xT.1)).setCell ⟨bc, 4, none⟩ (.string xT.2)).heap[W.heap.size]? = _ := ((heap_set_far _ _ _ _ _ hn5.symm).trans ((heap_set_far _ _ _ _ _ hn5.symm).trans kru))
    have hST := ((hSu.set (i := 3) hn1 hbs.1 (.int .i64 xT.1)).set (i := 4) hn1 hbs.1 (.string xT.2))
    have hGT := (grown_setN (i := 4) (grown_setN (i := 3) (hGN.trans hq) hbs.2.2 (.int .i64 xT.1)) hbs.2.2 (.string xT.2))
    clear kbN krN hSN hGN ku kru hq hSu hp kw3 kw4
    go_upto_region 8 with fail
    clear hcu hfu
    generalize ((u6.setCell ⟨bc, 3, none⟩ (.int .i64 xT.1)).setCell ⟨bc, 4, none⟩ (.string xT.2)) = y6 at *
    have kq6 := Blk.cell kbT
    go_wp2_with fail
    go_at_call 74
    refine (rtxtS w0 g M _ y6 hST).mono ?_
    rintro e u7 ⟨xX, he, hxX, hSu, hp, hq⟩
    obtain rfl : e = .returned (.string xX) := he
    have HPX := Lib.hid hp
    rw [nx_def] at hSu
    have ku := heap_grown hq hn1.symm kbT
    have kru := heap_grown hq hn3.symm krT
    clear kq6
    have hcu := Blk.cell ku
    have hfu := Blk.frozen ku
    have kw7 : (u7.setCell ⟨bc, 7, none⟩ (.string xX)).heap[bc]? = some (.cells #[.int .i64 1, .string xU, .string xN, .int .i64 xT.1, .string xT.2, .int .i64 0, .string ⟨#[]⟩, .string xX, .int .i64 0, .slice none 0 0] 31 (0, 0)) := heap_set_near _ _ _ _ _ _ ku
    have kbX : (u7.setCell ⟨bc, 7, none⟩ (.string xX)).heap[bc]? = _ := kw7
    have krX : (u7.setCell ⟨bc, 7, none⟩ (.string xX)).heap[W.heap.size]? = _ := ((heap_set_far _ _ _ _ _ hn5.symm).trans kru)
    have hSX := (hSu.set (i := 7) hn1 hbs.1 (.string xX))
    have hGX := (grown_setN (i := 7) (hGT.trans hq) hbs.2.2 (.string xX))
    clear kbT krT hST hGT ku kru hq hSu hp kw7
    go_upto_region 12 with fail
    clear hcu hfu
    generalize (u7.setCell ⟨bc, 7, none⟩ (.string xX)) = y7 at *
    have HC : Hid (((nx (nx (nx (nx (nx s pInt) pTxt) pTxt) pTtl) pTxt) = (s.bind pCg).map (·.2) ∧ ∀ q, s.bind pCg = some q → (⟨1, xU, xN, xT.1, xT.2, 0, ⟨#[]⟩, xX, 0, []⟩ : Cg) = q.1) ∨ (s.bind pCg = none ∧ cv (⟨1, xU, xN, xT.1, xT.2, 0, ⟨#[]⟩, xX, 0, []⟩ : Cg) ≠ 0)) := Lib.hid (by
      have f1 : fU (1 : Int) = true := rfl
      have f2 : fN (1 : Int) = true := rfl
      have f3 : fT (1 : Int) = true := rfl
      have f4 : fO (1 : Int) = false := rfl
      have f5 : fK (1 : Int) = false := rfl
      have f6 : fH (1 : Int) = false := rfl
      have hV : fV (1 : Int) = true := rfl
      have hc := pCg_chain (s := s) (k := 1) (u := xU) (nt := xN) (tx := xX) (t := xT) (o := (0, ⟨#[]⟩)) (n := 0) (hs := []) HP1.out hV (by simp only [f1, f2, f3, f4, f5, f6, nx_on, nx_off]; exact ok_on HPU.out) (by simp only [f1, f2, f3, f4, f5, f6, nx_on, nx_off]; exact ok_on HPN.out) (by simp only [f1, f2, f3, f4, f5, f6, nx_on, nx_off]; exact ok_on HPT.out) (by simp only [f1, f2, f3, f4, f5, f6, nx_on, nx_off]; exact ok_off) (by simp only [f1, f2, f3, f4, f5, f6, nx_on, nx_off]; exact ok_on HPX.out) (by simp only [f1, f2, f3, f4, f5, f6, nx_on, nx_off]; exact ok_off) (by simp only [f1, f2, f3, f4, f5, f6, nx_on, nx_off]; exact ok_off)
      simp only [f1, f2, f3, f4, f5, f6, nx_on, nx_off] at hc
      exact chain_left hc)
    have HSE := Lib.hid hSX
    have HGE := Lib.hid hGX
    clear hSX hGX
    have kcb := Blk.cell kbX
    have kfr := Blk.frozen krX
    have kcr0 := Blk.cell krX
    have kz0 : (y7.setCell ⟨W.heap.size, 0, none⟩ (.int .i64 1)).heap[W.heap.size]? = some (.cells #[.int .i64 1, .string ⟨#[]⟩, .string ⟨#[]⟩, .int .i64 0, .string ⟨#[]⟩, .int .i64 0, .string ⟨#[]⟩, .string ⟨#[]⟩, .int .i64 0, .slice none 0 0] 31 (0, 0)) := heap_set_near _ _ _ _ _ _ krX
    have kz1 : ((y7.setCell ⟨W.heap.size, 0, none⟩ (.int .i64 1)).setCell ⟨W.heap.size, 1, none⟩ (.string xU)).heap[W.heap.size]? = some (.cells #[.int .i64 1, .string xU, .string ⟨#[]⟩, .int .i64 0, .string ⟨#[]⟩, .int .i64 0, .string ⟨#[]⟩, .string ⟨#[]⟩, .int .i64 0, .slice none 0 0] 31 (0, 0)) := heap_set_near _ _ _ _ _ _ kz0
    have kz2 : (((y7.setCell ⟨W.heap.size, 0, none⟩ (.int .i64 1)).setCell ⟨W.heap.size, 1, none⟩ (.string xU)).setCell ⟨W.heap.size, 2, none⟩ (.string xN)).heap[W.heap.size]? = some (.cells #[.int .i64 1, .string xU, .string xN, .int .i64 0, .string ⟨#[]⟩, .int .i64 0, .string ⟨#[]⟩, .string ⟨#[]⟩, .int .i64 0, .slice none 0 0] 31 (0, 0)) := heap_set_near _ _ _ _ _ _ kz1
    have kz3 : ((((y7.setCell ⟨W.heap.size, 0, none⟩ (.int .i64 1)).setCell ⟨W.heap.size, 1, none⟩ (.string xU)).setCell ⟨W.heap.size, 2, none⟩ (.string xN)).setCell ⟨W.heap.size, 3, none⟩ (.int .i64 xT.1)).heap[W.heap.size]? = some (.cells #[.int .i64 1, .string xU, .string xN, .int .i64 xT.1, .string ⟨#[]⟩, .int .i64 0, .string ⟨#[]⟩, .string ⟨#[]⟩, .int .i64 0, .slice none 0 0] 31 (0, 0)) := heap_set_near _ _ _ _ _ _ kz2
    have kz4 : (((((y7.setCell ⟨W.heap.size, 0, none⟩ (.int .i64 1)).setCell ⟨W.heap.size, 1, none⟩ (.string xU)).setCell ⟨W.heap.size, 2, none⟩ (.string xN)).setCell ⟨W.heap.size, 3, none⟩ (.int .i64 xT.1)).setCell ⟨W.heap.size, 4, none⟩ (.string xT.2)).heap[W.heap.size]? = some (.cells #[.int .i64 1, .string xU, .string xN, .int .i64 xT.1, .string xT.2, .int .i64 0, .string ⟨#[]⟩, .string ⟨#[]⟩, .int .i64 0, .slice none 0 0] 31 (0, 0)) := heap_set_near _ _ _ _ _ _ kz3
    have kz5 : ((((((y7.setCell ⟨W.heap.size, 0, none⟩ (.int .i64 1)).setCell ⟨W.heap.size, 1, none⟩ (.string xU)).setCell ⟨W.heap.size, 2, none⟩ (.string xN)).setCell ⟨W.heap.size, 3, none⟩ (.int .i64 xT.1)).setCell ⟨W.heap.size, 4, none⟩ (.string xT.2)).setCell ⟨W.heap.size, 5, none⟩ (.int .i64 0)).heap[W.heap.size]? = some (.cells #[.int .i64 1, .string xU, .string xN, .int .i64 xT.1, .string xT.2, .int .i64 0, .string ⟨#[]⟩, .string ⟨#[]⟩, .int .i64 0, .slice none 0 0] 31 (0, 0)) := heap_set_near _ _ _ _ _ _ kz4
    have kz6 : (((((((y7.setCell ⟨W.heap.size, 0, none⟩ (.int .i64 1)).setCell ⟨W.heap.size, 1, none⟩ (.string xU)).setCell ⟨W.heap.size, 2, none⟩ (.string xN)).setCell ⟨W.heap.size, 3, none⟩ (.int .i64 xT.1)).setCell ⟨W.heap.size, 4, none⟩ (.string xT.2)).setCell ⟨W.heap.size, 5, none⟩ (.int .i64 0)).setCell ⟨W.heap.size, 6, none⟩ (.string ⟨#[]⟩)).heap[W.heap.size]? = some (.cells #[.int .i64 1, .string xU, .string xN, .int .i64 xT.1, .string xT.2, .int .i64 0, .string ⟨#[]⟩, .string ⟨#[]⟩, .int .i64 0, .slice none 0 0] 31 (0, 0)) := heap_set_near _ _ _ _ _ _ kz5
    have kz7 : ((((((((y7.setCell ⟨W.heap.size, 0, none⟩ (.int .i64 1)).setCell ⟨W.heap.size, 1, none⟩ (.string xU)).setCell ⟨W.heap.size, 2, none⟩ (.string xN)).setCell ⟨W.heap.size, 3, none⟩ (.int .i64 xT.1)).setCell ⟨W.heap.size, 4, none⟩ (.string xT.2)).setCell ⟨W.heap.size, 5, none⟩ (.int .i64 0)).setCell ⟨W.heap.size, 6, none⟩ (.string ⟨#[]⟩)).setCell ⟨W.heap.size, 7, none⟩ (.string xX)).heap[W.heap.size]? = some (.cells #[.int .i64 1, .string xU, .string xN, .int .i64 xT.1, .string xT.2, .int .i64 0, .string ⟨#[]⟩, .string xX, .int .i64 0, .slice none 0 0] 31 (0, 0)) := heap_set_near _ _ _ _ _ _ kz6
    have kz8 : (((((((((y7.setCell ⟨W.heap.size, 0, none⟩ (.int .i64 1)).setCell ⟨W.heap.size, 1, none⟩ (.string xU)).setCell ⟨W.heap.size, 2, none⟩ (.string xN)).setCell ⟨W.heap.size, 3, none⟩ (.int .i64 xT.1)).setCell ⟨W.heap.size, 4, none⟩ (.string xT.2)).setCell ⟨W.heap.size, 5, none⟩ (.int .i64 0)).setCell ⟨W.heap.size, 6, none⟩ (.string ⟨#[]⟩)).setCell ⟨W.heap.size, 7, none⟩ (.string xX)).setCell ⟨W.heap.size, 8, none⟩ (.int .i64 0)).heap[W.heap.size]? = some (.cells #[.int .i64 1, .string xU, .string xN, .int .i64 xT.1, .string xT.2, .int .i64 0, .string ⟨#[]⟩, .string xX, .int .i64 0, .slice none 0 0] 31 (0, 0)) := heap_set_near _ _ _ _ _ _ kz7
    have kz9 : ((((((((((y7.setCell ⟨W.heap.size, 0, none⟩ (.int .i64 1)).setCell ⟨W.heap.size, 1, none⟩ (.string xU)).setCell ⟨W.heap.size, 2, none⟩ (.string xN)).setCell ⟨W.heap.size, 3, none⟩ (.int .i64 xT.1)).setCell ⟨W.heap.size, 4, none⟩ (.string xT.2)).setCell ⟨W.heap.size, 5, none⟩ (.int .i64 0)).setCell ⟨W.heap.size, 6, none⟩ (.string ⟨#[]⟩)).setCell ⟨W.heap.size, 7, none⟩ (.string xX)).setCell ⟨W.heap.size, 8, none⟩ (.int .i64 0)).setCell ⟨W.heap.size, 9, none⟩ (.slice none 0 0)).heap[W.heap.size]? = some (.cells #[.int .i64 1, .string xU, .string xN, .int .i64 xT.1, .string xT.2, .int .i64 0, .string ⟨#[]⟩, .string xX, .int .i64 0, .slice none 0 0] 31 (0, 0)) := heap_set_near _ _ _ _ _ _ kz8
    have kcz := Blk.cell kz9
    have HSF := Lib.hid ((((((((((HSE.out.set (i := 0) hn3 hbs.2.1 (.int .i64 1)).set (i := 1) hn3 hbs.2.1 (.string xU)).set (i := 2) hn3 hbs.2.1 (.string xN)).set (i := 3) hn3 hbs.2.1 (.int .i64 xT.1)).set (i := 4) hn3 hbs.2.1 (.string xT.2)).set (i := 5) hn3 hbs.2.1 (.int .i64 0)).set (i := 6) hn3 hbs.2.1 (.string ⟨#[]⟩)).set (i := 7) hn3 hbs.2.1 (.string xX)).set (i := 8) hn3 hbs.2.1 (.int .i64 0)).set (i := 9) hn3 hbs.2.1 (.slice none 0 0))
    have HGF := Lib.hid (grown_setN (i := 9) (grown_setN (i := 8) (grown_setN (i := 7) (grown_setN (i := 6) (grown_setN (i := 5) (grown_setN (i := 4) (grown_setN (i := 3) (grown_setN (i := 2) (grown_setN (i := 1) (grown_setN (i := 0) HGE.out (Nat.le_refl _) (.int .i64 1)) (Nat.le_refl _) (.string xU)) (Nat.le_refl _) (.string xN)) (Nat.le_refl _) (.int .i64 xT.1)) (Nat.le_refl _) (.string xT.2)) (Nat.le_refl _) (.int .i64 0)) (Nat.le_refl _) (.string ⟨#[]⟩)) (Nat.le_refl _) (.string xX)) (Nat.le_refl _) (.int .i64 0)) (Nat.le_refl _) (.slice none 0 0))
    clear kz0 kz1 kz2 kz3 kz4 kz5 kz6 kz7 kz8 kz9
    go_wp2_with fail
    have hwfT : Hid (Lit.wf (.int .i64 xT.1) = true) := Lib.hid (WalkArith.wf_i64 (by omega))
    refine bodyPost_ret (v := .agg #[.int .i64 1, .string xU, .string xN, .int .i64 xT.1, .string xT.2, .int .i64 0, .string ⟨#[]⟩, .string xX, .int .i64 0, .slice none 0 0]) ?_ rfl ⟨⟨1, xU, xN, xT.1, xT.2, 0, ⟨#[]⟩, xX, 0, []⟩, none, 0, 0, (nx (nx (nx (nx (nx s pInt) pTxt) pTxt) pTtl) pTxt), rfl, RdR.nil _ _ _, fun ad h => (by cases h), ⟨hw1.out, Nat.le_trans hxU HM.out, Nat.le_trans hxN HM.out, hwfT.out, Nat.le_trans hxT.2.2 HM.out, hw0.out, Nat.zero_le _, Nat.le_trans hxX HM.out, hw0.out, fun r hr => (by cases hr)⟩, HSF.out, HC.out, HGF.out⟩
    simp [results, Tryd.results60, go_sem, kcz]
  · have qf0 : (k == 1) = false := by simp; omega
    have qf1 : (k != 6) = true := by simp; omega
    have qf2 : (k == 9) = false := by simp; omega
    have qf3 : (k != 10) = true := by simp; omega
    have qf4 : (k == 4) = false := by simp; omega
    have qf5 : (k == 6) = false := by simp; omega
    have qf6 : (k == 10) = false := by simp; omega
    have qf7 : (k == 5) = false := by simp; omega
    have HKD := Lib.hid hkd
    clear hkd HKK
    have kq3 := Blk.cell kb1
    go_wp2_with fail
    go_at_call 74
    refine (rtxtS w0 g M _ y3 hS2).mono ?_
    rintro e u4 ⟨xU, he, hxU, hSu, hp, hq⟩
    obtain rfl : e = .returned (.string xU) := he
    have HPU := Lib.hid hp
    rw [nx_def] at hSu
    have ku := heap_grown hq hn1.symm kb1
    have kru := heap_grown hq hn3.symm kr2
    clear kq3
    have hcu := Blk.cell ku
    have hfu := Blk.frozen ku
    have kw1 : (u4.setCell ⟨bc, 1, none⟩ (.string xU)).heap[bc]? = some (.cells #[.int .i64 k, .string xU, .string ⟨#[]⟩, .int .i64 0, .string ⟨#[]⟩, .int .i64 0, .string ⟨#[]⟩, .string ⟨#[]⟩, .int .i64 0, .slice none 0 0] 31 (0, 0)) := heap_set_near _ _ _ _ _ _ ku
    have kbU : (u4.setCell ⟨bc, 1, none⟩ (.string xU)).heap[bc]? = _ := kw1
    have krU : (u4.setCell ⟨bc, 1, none⟩ (.string xU)).heap[W.heap.size]? = _ := ((heap_set_far _ _ _ _ _ hn5.symm).trans kru)
    have hSU := (hSu.set (i := 1) hn1 hbs.1 (.string xU))
    have hGU := (grown_setN (i := 1) (hg2.trans hq) hbs.2.2 (.string xU))
    clear kb1 kr2 hS2 hg2 ku kru hq hSu hp kw1
    go_upto_region 4 with fail
    clear hcu hfu
    generalize (u4.setCell ⟨bc, 1, none⟩ (.string xU)) = y4 at *
    have kq4 := Blk.cell kbU
    go_wp2_with fail
    go_at_call 75
    refine (rttlS w0 g M _ y4 hSU).mono ?_
    rintro e u5 ⟨xT, he, hxT, hSu, hp, hq⟩
    obtain rfl : e = .returned (.agg #[.int .i64 xT.1, .string xT.2]) := he
    have HPT := Lib.hid hp
    rw [nx_def] at hSu
    have ku := heap_grown hq hn1.symm kbU
    have kru := heap_grown hq hn3.symm krU
    clear kq4
    have hcu := Blk.cell ku
    have hfu := Blk.frozen ku
    have kw3 : (u5.setCell ⟨bc, 3, none⟩ (.int .i64 xT.1)).heap[bc]? = some (.cells #[.int .i64 k, .string xU, .string ⟨#[]⟩, .int .i64 xT.1, .string ⟨#[]⟩, .int .i64 0, .string ⟨#[]⟩, .string ⟨#[]⟩, .int .i64 0, .slice none 0 0] 31 (0, 0)) := heap_set_near _ _ _ _ _ _ ku
    have kw4 : ((u5.setCell ⟨bc, 3, none⟩ (.int .i64 xT.1)).setCell ⟨bc, 4, none⟩ (.string xT.2)).heap[bc]? = some (.cells #[.int .i64 k, .string xU, .string ⟨#[]⟩, .int .i64 xT.1, .string xT.2, .int .i64 0, .string ⟨#[]⟩, .string ⟨#[]⟩, .int .i64 0, .slice none 0 0] 31 (0, 0)) := heap_set_near _ _ _ _ _ _ kw3
    have kbT : ((u5.setCell ⟨bc, 3, none⟩ (.int .i64 xT.1)).setCell ⟨bc, 4, none⟩ (.string xT.2)).heap[bc]? = _ := kw4
    have krT : ((u5.setCell ⟨bc, 3, none⟩ (.int .i64 xT.1)).setCell ⟨bc, 4, none⟩ (.string xT.2)).heap[W.heap.size]? = _ := ((heap_set_far _ _ _ _ _ hn5.symm).trans ((heap_set_far _ _ _ _ _ hn5.symm).trans kru))
    have hST := ((hSu.set (i := 3) hn1 hbs.1 (.int .i64 xT.1)).set (i := 4) hn1 hbs.1 (.string xT.2))
    have hGT := (grown_setN (i := 4) (grown_setN (i := 3) (hGU.trans hq) hbs.2.2 (.int .i64 xT.1)) hbs.2.2 (.string xT.2))
    clear kbU krU hSU hGU ku kru hq hSu hp kw3 kw4
    go_upto_region 8 with fail
    clear hcu hfu
    generalize ((u5.setCell ⟨bc, 3, none⟩ (.int .i64 xT.1)).setCell ⟨bc, 4, none⟩ (.string xT.2)) = y5 at *
    have HF1 : Hid (fU k = fV k ∧ fN k = false ∧ fT k = fV k ∧ fO k = false ∧ fK k = false ∧ fH k = false) := Lib.hid (by
      have hkd := HKD.out
      unfold fU fN fT fO fK fH fV
      refine ⟨decide_eq_decide.2 (by omega), decide_eq_false (by omega), decide_eq_decide.2 (by omega), decide_eq_false (by omega), decide_eq_false (by omega), decide_eq_false (by omega)⟩)
    have HC : Hid (((nx (nx (nx s pInt) pTxt) pTtl) = (s.bind pCg).map (·.2) ∧ ∀ q, s.bind pCg = some q → (⟨k, xU, ⟨#[]⟩, xT.1, xT.2, 0, ⟨#[]⟩, ⟨#[]⟩, 0, []⟩ : Cg) = q.1) ∨ (s.bind pCg = none ∧ cv (⟨k, xU, ⟨#[]⟩, xT.1, xT.2, 0, ⟨#[]⟩, ⟨#[]⟩, 0, []⟩ : Cg) ≠ 0)) := Lib.hid (by
      obtain ⟨f1, f2, f3, f4, f5, f6⟩ := HF1.out
      cases hV : fV k with
      | false => exact .inr ⟨pCg_no HP1.out hV, cv_unknown hV⟩
      | true =>
        rw [hV] at f1 f3
        have hc := pCg_chain (s := s) (k := k) (u := xU) (nt := ⟨#[]⟩) (tx := ⟨#[]⟩) (t := xT) (o := (0, ⟨#[]⟩)) (n := 0) (hs := []) HP1.out hV (by simp only [f1, f2, f3, f4, f5, f6, nx_on, nx_off]; exact ok_on HPU.out) (by simp only [f1, f2, f3, f4, f5, f6, nx_on, nx_off]; exact ok_off) (by simp only [f1, f2, f3, f4, f5, f6, nx_on, nx_off]; exact ok_on HPT.out) (by simp only [f1, f2, f3, f4, f5, f6, nx_on, nx_off]; exact ok_off) (by simp only [f1, f2, f3, f4, f5, f6, nx_on, nx_off]; exact ok_off) (by simp only [f1, f2, f3, f4, f5, f6, nx_on, nx_off]; exact ok_off) (by simp only [f1, f2, f3, f4, f5, f6, nx_on, nx_off]; exact ok_off)
        simp only [f1, f2, f3, f4, f5, f6, nx_on, nx_off] at hc
        exact chain_left hc)
    have HSE := Lib.hid hST
    have HGE := Lib.hid hGT
    clear hST hGT
    have kcb := Blk.cell kbT
    have kfr := Blk.frozen krT
    have kcr0 := Blk.cell krT
    have kz0 : (y5.setCell ⟨W.heap.size, 0, none⟩ (.int .i64 k)).heap[W.heap.size]? = some (.cells #[.int .i64 k, .string ⟨#[]⟩, .string ⟨#[]⟩, .int .i64 0, .string ⟨#[]⟩, .int .i64 0, .string ⟨#[]⟩, .string ⟨#[]⟩, .int .i64 0, .slice none 0 0] 31 (0, 0)) := heap_set_near _ _ _ _ _ _ krT
    have kz1 : ((y5.setCell ⟨W.heap.size, 0, none⟩ (.int .i64 k)).setCell ⟨W.heap.size, 1, none⟩ (.string xU)).heap[W.heap.size]? = some (.cells #[.int .i64 k, .string xU, .string ⟨#[]⟩, .int .i64 0, .string ⟨#[]⟩, .int .i64 0, .string ⟨#[]⟩, .string ⟨#[]⟩, .int .i64 0, .slice none 0 0] 31 (0, 0)) := heap_set_near _ _ _ _ _ _ kz0
    have kz2 : (((y5.setCell ⟨W.heap.size, 0, none⟩ (.int .i64 k)).setCell ⟨W.heap.size, 1, none⟩ (.string xU)).setCell ⟨W.heap.size, 2, none⟩ (.string ⟨#[]⟩)).heap[W.heap.size]? = some (.cells #[.int .i64 k, .string xU, .string ⟨#[]⟩, .int .i64 0, .string ⟨#[]⟩, .int .i64 0, .string ⟨#[]⟩, .string ⟨#[]⟩, .int .i64 0, .slice none 0 0] 31 (0, 0)) := heap_set_near _ _ _ _ _ _ kz1
    have kz3 : ((((y5.setCell ⟨W.heap.size, 0, none⟩ (.int .i64 k)).setCell ⟨W.heap.size, 1, none⟩ (.string xU)).setCell ⟨W.heap.size, 2, none⟩ (.string ⟨#[]⟩)).setCell ⟨W.heap.size, 3, none⟩ (.int .i64 xT.1)).heap[W.heap.size]? = some (.cells #[.int .i64 k, .string xU, .string ⟨#[]⟩, .int .i64 xT.1, .string ⟨#[]⟩, .int .i64 0, .string ⟨#[]⟩, .string ⟨#[]⟩, .int .i64 0, .slice none 0 0] 31 (0, 0)) := heap_set_near _ _ _ _ _ _ kz2
    have kz4 : (((((y5.setCell ⟨W.heap.size, 0, none⟩ (.int .i64 k)).setCell ⟨W.heap.size, 1, none⟩ (.string xU)).setCell ⟨W.heap.size, 2, none⟩ (.string ⟨#[]⟩)).setCell ⟨W.heap.size, 3, none⟩ (.int .i64 xT.1)).setCell ⟨W.heap.size, 4, none⟩ (.string xT.2)).heap[W.heap.size]? = some (.cells #[.int .i64 k, .string xU, .string ⟨#[]⟩, .int .i64 xT.1, .string xT.2, .int .i64 0, .string ⟨#[]⟩, .string ⟨#[]⟩, .int .i64 0, .slice none 0 0] 31 (0, 0)) := heap_set_near _ _ _ _ _ _ kz3
    have kz5 : ((((((y5.setCell ⟨W.heap.size, 0, none⟩ (.int .i64 k)).setCell ⟨W.heap.size, 1, none⟩ (.string xU)).setCell ⟨W.heap.size, 2, none⟩ (.string ⟨#[]⟩)).setCell ⟨W.heap.size, 3, none⟩ (.int .i64 xT.1)).setCell ⟨W.heap.size, 4, none⟩ (.string xT.2)).setCell ⟨W.heap.size, 5, none⟩ (.int .i64 0)).heap[W.heap.size]? = some (.cells #[.int .i64 k, .string xU, .string ⟨#[]⟩, .int .i64 xT.1, .string xT.2, .int .i64 0, .string ⟨#[]⟩, .string ⟨#[]⟩, .int .i64 0, .slice none 0 0] 31 (0, 0)) := heap_set_near _ _ _ _ _ _ kz4
    have kz6 : (((((((y5.setCell ⟨W.heap.size, 0, none⟩ (.int .i64 k)).setCell ⟨W.heap.size, 1, none⟩ (.string xU)).setCell ⟨W.heap.size, 2, none⟩ (.string ⟨#[]⟩)).setCell ⟨W.heap.size, 3, none⟩ (.int .i64 xT.1)).setCell ⟨W.heap.size, 4, none⟩ (.string xT.2)).setCell ⟨W.heap.size, 5, none⟩ (.int .i64 0)).setCell ⟨W.heap.size, 6, none⟩ (.string ⟨#[]⟩)).heap[W.heap.size]? = some (.cells #[.int .i64 k, .string xU, .string ⟨#[]⟩, .int .i64 xT.1, .string xT.2, .int .i64 0, .string ⟨#[]⟩, .string ⟨#[]⟩, .int .i64 0, .slice none 0 0] 31 (0, 0)) := heap_set_near _ _ _ _ _ _ kz5
    have kz7 : ((((((((y5.setCell ⟨W.heap.size, 0, none⟩ (.int .i64 k)).setCell ⟨W.heap.size, 1, none⟩ (.string xU)).setCell ⟨W.heap.size, 2, none⟩ (.string ⟨#[]⟩)).setCell ⟨W.heap.size, 3, none⟩ (.int .i64 xT.1)).setCell ⟨W.heap.size, 4, none⟩ (.string xT.2)).setCell ⟨W.heap.size, 5, none⟩ (.int .i64 0)).setCell ⟨W.heap.size, 6, none⟩ (.string ⟨#[]⟩)).setCell ⟨W.heap.size, 7, none⟩ (.string ⟨#[]⟩)).heap[W.heap.size]? = some (.cells #[.int .i64 k, .string xU, .string ⟨#[]⟩, .int .i64 xT.1, .string xT.2, .int .i64 0, .string ⟨#[]⟩, .string ⟨#[]⟩, .int .i64 0, .slice none 0 0] 31 (0, 0)) := heap_set_near _ _ _ _ _ _ kz6
    have kz8 : (((((((((y5.setCell ⟨W.heap.size, 0, none⟩ (.int .i64 k)).setCell ⟨W.heap.size, 1, none⟩ (.string xU)).setCell ⟨W.heap.size, 2, none⟩ (.string ⟨#[]⟩)).setCell ⟨W.heap.size, 3, none⟩ (.int .i64 xT.1)).setCell ⟨W.heap.size, 4, none⟩ (.string xT.2)).setCell ⟨W.heap.size, 5, none⟩ (.int .i64 0)).setCell ⟨W.heap.size, 6, none⟩ (.string ⟨#[]⟩)).setCell ⟨W.heap.size, 7, none⟩ (.string ⟨#[]⟩)).setCell ⟨W.heap.size, 8, none⟩ (.int .i64 0)).heap[W.heap.size]? = some (.cells #[.int .i64 k, .string xU, .string ⟨#[]⟩, .int .i64 xT.1, .string xT.2, .int .i64 0, .string ⟨#[]⟩, .string ⟨#[]⟩, .int .i64 0, .slice none 0 0] 31 (0, 0)) := heap_set_near _ _ _ _ _ _ kz7
    have kz9 : ((((((((((y5.setCell ⟨W.heap.size, 0, none⟩ (.int .i64 k)).setCell ⟨W.heap.size, 1, none⟩ (.string xU)).setCell ⟨W.heap.size, 2, none⟩ (.string ⟨#[]⟩)).setCell ⟨W.heap.size, 3, none⟩ (.int .i64 xT.1)).setCell ⟨W.heap.size, 4, none⟩ (.string xT.2)).setCell ⟨W.heap.size, 5, none⟩ (.int .i64 0)).setCell ⟨W.heap.size, 6, none⟩ (.string ⟨#[]⟩)).setCell ⟨W.heap.size, 7, none⟩ (.string ⟨#[]⟩)).setCell ⟨W.heap.size, 8, none⟩ (.int .i64 0)).setCell ⟨W.heap.size, 9, none⟩ (.slice none 0 0)).heap[W.heap.size]? = some (.cells #[.int .i64 k, .string xU, .string ⟨#[]⟩, .int .i64 xT.1, .string xT.2, .int .i64 0, .string ⟨#[]⟩, .string ⟨#[]⟩, .int .i64 0, .slice none 0 0] 31 (0, 0)) := heap_set_near _ _ _ _ _ _ kz8
    have kcz := Blk.cell kz9
    have HSF := Lib.hid ((((((((((HSE.out.set (i := 0) hn3 hbs.2.1 (.int .i64 k)).set (i := 1) hn3 hbs.2.1 (.string xU)).set (i := 2) hn3 hbs.2.1 (.string ⟨#[]⟩)).set (i := 3) hn3 hbs.2.1 (.int .i64 xT.1)).set (i := 4) hn3 hbs.2.1 (.string xT.2)).set (i := 5) hn3 hbs.2.1 (.int .i64 0)).set (i := 6) hn3 hbs.2.1 (.string ⟨#[]⟩)).set (i := 7) hn3 hbs.2.1 (.string ⟨#[]⟩)).set (i := 8) hn3 hbs.2.1 (.int .i64 0)).set (i := 9) hn3 hbs.2.1 (.slice none 0 0))
    have HGF := Lib.hid (grown_setN (i := 9) (grown_setN (i := 8) (grown_setN (i := 7) (grown_setN (i := 6) (grown_setN (i := 5) (grown_setN (i := 4) (grown_setN (i := 3) (grown_setN (i := 2) (grown_setN (i := 1) (grown_setN (i := 0) HGE.out (Nat.le_refl _) (.int .i64 k)) (Nat.le_refl _) (.string xU)) (Nat.le_refl _) (.string ⟨#[]⟩)) (Nat.le_refl _) (.int .i64 xT.1)) (Nat.le_refl _) (.string xT.2)) (Nat.le_refl _) (.int .i64 0)) (Nat.le_refl _) (.string ⟨#[]⟩)) (Nat.le_refl _) (.string ⟨#[]⟩)) (Nat.le_refl _) (.int .i64 0)) (Nat.le_refl _) (.slice none 0 0))
    clear kz0 kz1 kz2 kz3 kz4 kz5 kz6 kz7 kz8 kz9
    go_wp2_with fail
    have hwfT : Hid (Lit.wf (.int .i64 xT.1) = true) := Lib.hid (WalkArith.wf_i64 (by omega))
    refine bodyPost_ret (v := .agg #[.int .i64 k, .string xU, .string ⟨#[]⟩, .int .i64 xT.1, .string xT.2, .int .i64 0, .string ⟨#[]⟩, .string ⟨#[]⟩, .int .i64 0, .slice none 0 0]) ?_ rfl ⟨⟨k, xU, ⟨#[]⟩, xT.1, xT.2, 0, ⟨#[]⟩, ⟨#[]⟩, 0, []⟩, none, 0, 0, (nx (nx (nx s pInt) pTxt) pTtl), rfl, RdR.nil _ _ _, fun ad h => (by cases h), ⟨hw1.out, Nat.le_trans hxU HM.out, Nat.zero_le _, hwfT.out, Nat.le_trans hxT.2.2 HM.out, hw0.out, Nat.zero_le _, Nat.zero_le _, hw0.out, fun r hr => (by cases hr)⟩, HSF.out, HC.out, HGF.out⟩
    simp [results, Tryd.results60, go_sem, kcz]
  · subst hkd
    clear HKK
    have kq3 := Blk.cell kb1
    go_wp2_with fail
    go_at_call 74
    refine (rtxtS w0 g M _ y3 hS2).mono ?_
    rintro e u4 ⟨xU, he, hxU, hSu, hp, hq⟩
    obtain rfl : e = .returned (.string xU) := he
    have HPU := Lib.hid hp
    rw [nx_def] at hSu
    have ku := heap_grown hq hn1.symm kb1
    have kru := heap_grown hq hn3.symm kr2
    clear kq3
    have hcu := Blk.cell ku
    have hfu := Blk.frozen ku
    have kw1 : (u4.setCell ⟨bc, 1, none⟩ (.string xU)).heap[bc]? = some (.cells #[.int .i64 4, .string xU, .string ⟨#[]⟩, .int .i64 0, .string ⟨#[]⟩, .int .i64 0, .string ⟨#[]⟩, .string ⟨#[]⟩, .int .i64 0, .slice none 0 0] 31 (0, 0)) := heap_set_near _ _ _ _ _ _ ku
    have kbU : (u4.setCell ⟨bc, 1, none⟩ (.string xU)).heap[bc]? = _ := kw1
    have krU : (u4.setCell ⟨bc, 1, none⟩ (.string xU)).heap[W.heap.size]? = _ := ((heap_set_far _ _ _ _ _ hn5.symm).trans kru)
    have hSU := (hSu.set (i := 1) hn1 hbs.1 (.string xU))
    have hGU := (grown_setN (i := 1) (hg2.trans hq) hbs.2.2 (.string xU))
    clear kb1 kr2 hS2 hg2 ku kru hq hSu hp kw1
    go_upto_region 4 with fail
    clear hcu hfu
    generalize (u4.setCell ⟨bc, 1, none⟩ (.string xU)) = y4 at *
    have kq4 := Blk.cell kbU
    go_wp2_with fail
    go_at_call 75
    refine (rttlS w0 g M _ y4 hSU).mono ?_
    rintro e u5 ⟨xT, he, hxT, hSu, hp, hq⟩
    obtain rfl : e = .returned (.agg #[.int .i64 xT.1, .string xT.2]) := he
    have HPT := Lib.hid hp
    rw [nx_def] at hSu
    have ku := heap_grown hq hn1.symm kbU
    have kru := heap_grown hq hn3.symm krU
    clear kq4
    have hcu := Blk.cell ku
    have hfu := Blk.frozen ku
    have kw3 : (u5.setCell ⟨bc, 3, none⟩ (.int .i64 xT.1)).heap[bc]? = some (.cells #[.int .i64 4, .string xU, .string ⟨#[]⟩, .int .i64 xT.1, .string ⟨#[]⟩, .int .i64 0, .string ⟨#[]⟩, .string ⟨#[]⟩, .int .i64 0, .slice none 0 0] 31 (0, 0)) := heap_set_near _ _ _ _ _ _ ku
    have kw4 : ((u5.setCell ⟨bc, 3, none⟩ (.int .i64 xT.1)).setCell ⟨bc, 4, none⟩ (.string xT.2)).heap[bc]? = some (.cells #[.int .i64 4, .string xU, .string ⟨#[]⟩, .int .i64 xT.1, .string xT.2, .int .i64 0, .string ⟨#[]⟩, .string ⟨#[]⟩, .int .i64 0, .slice none 0 0] 31 (0, 0)) := heap_set_near _ _ _ _ _ _ kw3
    have kbT : ((u5.setCell ⟨bc, 3, none⟩ (.int .i64 xT.1)).setCell ⟨bc, 4, none⟩ (.string xT.2)).heap[bc]? = _ := kw4
    have krT : ((u5.setCell ⟨bc, 3, none⟩ (.int .i64 xT.1)).setCell ⟨bc, 4, none⟩ (.string xT.2)).heap[W.heap.size]? = _ := ((heap_set_far _ _ _ _ _ hn5.symm).trans ((heap_set_far _ _ _ _ _ hn5.symm).trans kru))
    have hST := ((hSu.set (i := 3) hn1 hbs.1 (.int .i64 xT.1)).set (i := 4) hn1 hbs.1 (.string xT.2))
    have hGT := (grown_setN (i := 4) (grown_setN (i := 3) (hGU.trans hq) hbs.2.2 (.int .i64 xT.1)) hbs.2.2 (.string xT.2))
    clear kbU krU hSU hGU ku kru hq hSu hp kw3 kw4
    go_upto_region 8 with fail
    clear hcu hfu
    generalize ((u5.setCell ⟨bc, 3, none⟩ (.int .i64 xT.1)).setCell ⟨bc, 4, none⟩ (.string xT.2)) = y5 at *
    have kq5 := Blk.cell kbT
    go_wp2_with fail
    go_at_call 75
    refine (rttlS w0 g M _ y5 hST).mono ?_
    rintro e u6 ⟨xO, he, hxO, hSu, hp, hq⟩
    obtain rfl : e = .returned (.agg #[.int .i64 xO.1, .string xO.2]) := he
    have HPO := Lib.hid hp
    rw [nx_def] at hSu
    have ku := heap_grown hq hn1.symm kbT
    have kru := heap_grown hq hn3.symm krT
    clear kq5
    have hcu := Blk.cell ku
    have hfu := Blk.frozen ku
    have kw5 : (u6.setCell ⟨bc, 5, none⟩ (.int .i64 xO.1)).heap[bc]? = some (.cells #[.int .i64 4, .string xU, .string ⟨#[]⟩, .int .i64 xT.1, .string xT.2, .int .i64 xO.1, .string ⟨#[]⟩, .string ⟨#[]⟩, .int .i64 0, .slice none 0 0] 31 (0, 0)) := heap_set_near _ _ _ _ _ _ ku
    have kw6 : ((u6.setCell ⟨bc, 5, none⟩ (.int .i64 xO.1)).setCell ⟨bc, 6, none⟩ (.string xO.2)).heap[bc]? = some (.cells #[.int .i64 4, .string xU, .string ⟨#[]⟩, .int .i64 xT.1, .string xT.2, .int .i64 xO.1, .string xO.2, .string ⟨#[]⟩, .int .i64 0, .slice none 0 0] 31 (0, 0)) := heap_set_near _ _ _ _ _ _ kw5
    have kbO : ((u6.setCell ⟨bc, 5, none⟩ (.int .i64 xO.1)).setCell ⟨bc, 6, none⟩ (.string xO.2)).heap[bc]? = _ := kw6
    have krO : ((u6.setCell ⟨bc, 5, none⟩ (.int .i64 xO.1)).setCell ⟨bc, 6, none⟩ (.string xO.2)).heap[W.heap.size]? = _ := ((heap_set_far _ _ _ _ _ hn5.symm).trans ((heap_set_far _ _ _ _ _ hn5.symm).trans kru))
    have hSO := ((hSu.set (i := 5) hn1 hbs.1 (.int .i64 xO.1)).set (i := 6) hn1 hbs.1 (.string xO.2))
    have hGO := (grown_setN (i := 6) (grown_setN (i := 5) (hGT.trans hq) hbs.2.2 (.int .i64 xO.1)) hbs.2.2 (.string xO.2))
    clear kbT krT hST hGT ku kru hq hSu hp kw5 kw6
    go_upto_region 10 with fail
    clear hcu hfu
    generalize ((u6.setCell ⟨bc, 5, none⟩ (.int .i64 xO.1)).setCell ⟨bc, 6, none⟩ (.string xO.2)) = y6 at *
    have kq6 := Blk.cell kbO
    go_wp2_with fail
    go_at_call 59
    refine (rnumS w0 g M _ y6 hSO).mono ?_
    rintro e u7 ⟨xK, he, hxK, hSu, hp, hq⟩
    obtain rfl : e = .returned (.int .i64 (xK : Int)) := he
    have HPK := Lib.hid (pInt_ok hp)
    rw [nx_def, ← pInt_nx] at hSu
    have ku := heap_grown hq hn1.symm kbO
    have kru := heap_grown hq hn3.symm krO
    clear kq6
    have hcu := Blk.cell ku
    have hfu := Blk.frozen ku
    have kw8 : (u7.setCell ⟨bc, 8, none⟩ (.int .i64 (xK : Int))).heap[bc]? = some (.cells #[.int .i64 4, .string xU, .string ⟨#[]⟩, .int .i64 xT.1, .string xT.2, .int .i64 xO.1, .string xO.2, .string ⟨#[]⟩, .int .i64 (xK : Int), .slice none 0 0] 31 (0, 0)) := heap_set_near _ _ _ _ _ _ ku
    have kbK : (u7.setCell ⟨bc, 8, none⟩ (.int .i64 (xK : Int))).heap[bc]? = _ := kw8
    have krK : (u7.setCell ⟨bc, 8, none⟩ (.int .i64 (xK : Int))).heap[W.heap.size]? = _ := ((heap_set_far _ _ _ _ _ hn5.symm).trans kru)
    have hSK := (hSu.set (i := 8) hn1 hbs.1 (.int .i64 (xK : Int)))
    have hGK := (grown_setN (i := 8) (hGO.trans hq) hbs.2.2 (.int .i64 (xK : Int)))
    clear kbO krO hSO hGO ku kru hq hSu hp kw8
    go_upto_region 14 with fail
    clear hcu hfu
    generalize (u7.setCell ⟨bc, 8, none⟩ (.int .i64 (xK : Int))) = y7 at *
    have HC : Hid (((nx (nx (nx (nx (nx s pInt) pTxt) pTtl) pTtl) pInt) = (s.bind pCg).map (·.2) ∧ ∀ q, s.bind pCg = some q → (⟨4, xU, ⟨#[]⟩, xT.1, xT.2, xO.1, xO.2, ⟨#[]⟩, (xK : Int), []⟩ : Cg) = q.1) ∨ (s.bind pCg = none ∧ cv (⟨4, xU, ⟨#[]⟩, xT.1, xT.2, xO.1, xO.2, ⟨#[]⟩, (xK : Int), []⟩ : Cg) ≠ 0)) := Lib.hid (by
      have f1 : fU (4 : Int) = true := rfl
      have f2 : fN (4 : Int) = false := rfl
      have f3 : fT (4 : Int) = true := rfl
      have f4 : fO (4 : Int) = true := rfl
      have f5 : fK (4 : Int) = true := rfl
      have f6 : fH (4 : Int) = false := rfl
      have hV : fV (4 : Int) = true := rfl
      have hc := pCg_chain (s := s) (k := 4) (u := xU) (nt := ⟨#[]⟩) (tx := ⟨#[]⟩) (t := xT) (o := xO) (n := (xK : Int)) (hs := []) HP1.out hV (by simp only [f1, f2, f3, f4, f5, f6, nx_on, nx_off]; exact ok_on HPU.out) (by simp only [f1, f2, f3, f4, f5, f6, nx_on, nx_off]; exact ok_off) (by simp only [f1, f2, f3, f4, f5, f6, nx_on, nx_off]; exact ok_on HPT.out) (by simp only [f1, f2, f3, f4, f5, f6, nx_on, nx_off]; exact ok_on HPO.out) (by simp only [f1, f2, f3, f4, f5, f6, nx_on, nx_off]; exact ok_off) (by simp only [f1, f2, f3, f4, f5, f6, nx_on, nx_off]; exact ok_on HPK.out) (by simp only [f1, f2, f3, f4, f5, f6, nx_on, nx_off]; exact ok_off)
      simp only [f1, f2, f3, f4, f5, f6, nx_on, nx_off] at hc
      exact chain_left hc)
    have HSE := Lib.hid hSK
    have HGE := Lib.hid hGK
    clear hSK hGK
    have kcb := Blk.cell kbK
    have kfr := Blk.frozen krK
    have kcr0 := Blk.cell krK
    have kz0 : (y7.setCell ⟨W.heap.size, 0, none⟩ (.int .i64 4)).heap[W.heap.size]? = some (.cells #[.int .i64 4, .string ⟨#[]⟩, .string ⟨#[]⟩, .int .i64 0, .string ⟨#[]⟩, .int .i64 0, .string ⟨#[]⟩, .string ⟨#[]⟩, .int .i64 0, .slice none 0 0] 31 (0, 0)) := heap_set_near _ _ _ _ _ _ krK
    have kz1 : ((y7.setCell ⟨W.heap.size, 0, none⟩ (.int .i64 4)).setCell ⟨W.heap.size, 1, none⟩ (.string xU)).heap[W.heap.size]? = some (.cells #[.int .i64 4, .string xU, .string ⟨#[]⟩, .int .i64 0, .string ⟨#[]⟩, .int .i64 0, .string ⟨#[]⟩, .string ⟨#[]⟩, .int .i64 0, .slice none 0 0] 31 (0, 0)) := heap_set_near _ _ _ _ _ _ kz0
    have kz2 : (((y7.setCell ⟨W.heap.size, 0, none⟩ (.int .i64 4)).setCell ⟨W.heap.size, 1, none⟩ (.string xU)).setCell ⟨W.heap.size, 2, none⟩ (.string ⟨#[]⟩)).heap[W.heap.size]? = some (.cells #[.int .i64 4, .string xU, .string ⟨#[]⟩, .int .i64 0, .string ⟨#[]⟩, .int .i64 0, .string ⟨#[]⟩, .string ⟨#[]⟩, .int .i64 0, .slice none 0 0] 31 (0, 0)) := heap_set_near _ _ _ _ _ _ kz1
    have kz3 : ((((y7.setCell ⟨W.heap.size, 0, none⟩ (.int .i64 4)).setCell ⟨W.heap.size, 1, none⟩ (.string xU)).setCell ⟨W.heap.size, 2, none⟩ (.string ⟨#[]⟩)).setCell ⟨W.heap.size, 3, none⟩ (.int .i64 xT.1)).heap[W.heap.size]? = some (.cells #[.int .i64 4, .string xU, .string ⟨#[]⟩, .int .i64 xT.1, .string ⟨#[]⟩, .int .i64 0, .string ⟨#[]⟩, .string ⟨#[]⟩, .int .i64 0, .slice none 0 0] 31 (0, 0)) := heap_set_near _ _ _ _ _ _ kz2
    have kz4 : (((((y7.setCell ⟨W.heap.size, 0, none⟩ (.int .i64 4)).setCell ⟨W.heap.size, 1, none⟩ (.string xU)).setCell ⟨W.heap.size, 2, none⟩ (.string ⟨#[]⟩)).setCell ⟨W.heap.size, 3, none⟩ (.int .i64 xT.1)).setCell ⟨W.heap.size, 4, none⟩ (.string xT.2)).heap[W.heap.size]? = some (.cells #[.int .i64 4, .string xU, .string ⟨#[]⟩, .int .i64 xT.1, .string xT.2, .int .i64 0, .string ⟨#[]⟩, .string ⟨#[]⟩, .int .i64 0, .slice none 0 0] 31 (0, 0)) := heap_set_near _ _ _ _ _ _ kz3
    have kz5 : ((((((y7.setCell ⟨W.heap.size, 0, none⟩ (.int .i64 4)).setCell ⟨W.heap.size, 1, none⟩ (.string xU)).setCell ⟨W.heap.size, 2, none⟩ (.string ⟨#[]⟩)).setCell ⟨W.heap.size, 3, none⟩ (.int .i64 xT.1)).setCell ⟨W.heap.size, 4, none⟩ (.string xT.2)).setCell ⟨W.heap.size, 5, none⟩ (.int .i64 xO.1)).heap[W.heap.size]? = some (.cells #[.int .i64 4, .string xU, .string ⟨#[]⟩, .int .i64 xT.1, .string xT.2, .int .i64 xO.1, .string ⟨#[]⟩, .string ⟨#[]⟩, .int .i64 0, .slice none 0 0] 31 (0, 0)) := heap_set_near _ _ _ _ _ _ kz4
    have kz6 : (((((((y7.setCell ⟨W.heap.size, 0, none⟩ (.int .i64 4)).setCell ⟨W.heap.size, 1, none⟩ (.string xU)).setCell ⟨W.heap.size, 2, none⟩ (.string ⟨#[]⟩)).setCell ⟨W.heap.size, 3, none⟩ (.int .i64 xT.1)).setCell ⟨W.heap.size, 4, none⟩ (.string xT.2)).setCell ⟨W.heap.size, 5, none⟩ (.int .i64 xO.1)).setCell ⟨W.heap.size, 6, none⟩ (.string xO.2)).heap[W.heap.size]? = some (.cells #[.int .i64 4, .string xU, .string ⟨#[]⟩, .int .i64 xT.1, .string xT.2, .int .i64 xO.1, .string xO.2, .string ⟨#[]⟩, .int .i64 0, .slice none 0 0] 31 (0, 0)) := heap_set_near _ _ _ _ _ _ kz5
    have kz7 : ((((((((y7.setCell ⟨W.heap.size, 0, none⟩ (.int .i64 4)).setCell ⟨W.heap.size, 1, none⟩ (.string xU)).setCell ⟨W.heap.size, 2, none⟩ (.string ⟨#[]⟩)).setCell ⟨W.heap.size, 3, none⟩ (.int .i64 xT.1)).setCell ⟨W.heap.size, 4, none⟩ (.string xT.2)).setCell ⟨W.heap.size, 5, none⟩ (.int .i64 xO.1)).setCell ⟨W.heap.size, 6, none⟩ (.string xO.2)).setCell ⟨W.heap.size, 7, none⟩ (.string ⟨#[]⟩)).heap[W.heap.size]? = some (.cells #[.int .i64 4, .string xU, .string ⟨#[]⟩, .int .i64 xT.1, .string xT.2, .int .i64 xO.1, .string xO.2, .string ⟨#[]⟩, .int .i64 0, .slice none 0 0] 31 (0, 0)) := heap_set_near _ _ _ _ _ _ kz6
    have kz8 : (((((((((y7.setCell ⟨W.heap.size, 0, none⟩ (.int .i64 4)).setCell ⟨W.heap.size, 1, none⟩ (.string xU)).setCell ⟨W.heap.size, 2, none⟩ (.string ⟨#[]⟩)).setCell ⟨W.heap.size, 3, none⟩ (.int .i64 xT.1)).setCell ⟨W.heap.size, 4, none⟩ (.string xT.2)).setCell ⟨W.heap.size, 5, none⟩ (.int .i64 xO.1)).setCell ⟨W.heap.size, 6, none⟩ (.string xO.2)).setCell ⟨W.heap.size, 7, none⟩ (.string ⟨#[]⟩)).setCell ⟨W.heap.size, 8, none⟩ (.int .i64 (xK : Int))).heap[W.heap.size]? = some (.cells #[.int .i64 4, .string xU, .string ⟨#[]⟩, .int .i64 xT.1, .string xT.2, .int .i64 xO.1, .string xO.2, .string ⟨#[]⟩, .int .i64 (xK : Int), .slice none 0 0] 31 (0, 0)) := heap_set_near _ _ _ _ _ _ kz7
    have kz9 : ((((((((((y7.setCell ⟨W.heap.size, 0, none⟩ (.int .i64 4)).setCell ⟨W.heap.size, 1, none⟩ (.string xU)).setCell ⟨W.heap.size, 2, none⟩ (.string ⟨#[]⟩)).setCell ⟨W.heap.size, 3, none⟩ (.int .i64 xT.1)).setCell ⟨W.heap.size, 4, none⟩ (.string xT.2)).setCell ⟨W.heap.size, 5, none⟩ (.int .i64 xO.1)).setCell ⟨W.heap.size, 6, none⟩ (.string xO.2)).setCell ⟨W.heap.size, 7, none⟩ (.string ⟨#[]⟩)).setCell ⟨W.heap.size, 8, none⟩ (.int .i64 (xK : Int))).setCell ⟨W.heap.size, 9, none⟩ (.slice none 0 0)).heap[W.heap.size]? = some (.cells #[.int .i64 4, .string xU, .string ⟨#[]⟩, .int .i64 xT.1, .string xT.2, .int .i64 xO.1, .string xO.2, .string ⟨#[]⟩, .int .i64 (xK : Int), .slice none 0 0] 31 (0, 0)) := heap_set_near _ _ _ _ _ _ kz8
    have kcz := Blk.cell kz9
    have HSF := Lib.hid ((((((((((HSE.out.set (i := 0) hn3 hbs.2.1 (.int .i64 4)).set (i := 1) hn3 hbs.2.1 (.string xU)).set (i := 2) hn3 hbs.2.1 (.string ⟨#[]⟩)).set (i := 3) hn3 hbs.2.1 (.int .i64 xT.1)).set (i := 4) hn3 hbs.2.1 (.string xT.2)).set (i := 5) hn3 hbs.2.1 (.int .i64 xO.1)).set (i := 6) hn3 hbs.2.1 (.string xO.2)).set (i := 7) hn3 hbs.2.1 (.string ⟨#[]⟩)).set (i := 8) hn3 hbs.2.1 (.int .i64 (xK : Int))).set (i := 9) hn3 hbs.2.1 (.slice none 0 0))
    have HGF := Lib.hid (grown_setN (i := 9) (grown_setN (i := 8) (grown_setN (i := 7) (grown_setN (i := 6) (grown_setN (i := 5) (grown_setN (i := 4) (grown_setN (i := 3) (grown_setN (i := 2) (grown_setN (i := 1) (grown_setN (i := 0) HGE.out (Nat.le_refl _) (.int .i64 4)) (Nat.le_refl _) (.string xU)) (Nat.le_refl _) (.string ⟨#[]⟩)) (Nat.le_refl _) (.int .i64 xT.1)) (Nat.le_refl _) (.string xT.2)) (Nat.le_refl _) (.int .i64 xO.1)) (Nat.le_refl _) (.string xO.2)) (Nat.le_refl _) (.string ⟨#[]⟩)) (Nat.le_refl _) (.int .i64 (xK : Int))) (Nat.le_refl _) (.slice none 0 0))
    clear kz0 kz1 kz2 kz3 kz4 kz5 kz6 kz7 kz8 kz9
    go_wp2_with fail
    have hwfT : Hid (Lit.wf (.int .i64 xT.1) = true) := Lib.hid (WalkArith.wf_i64 (by omega))
    have hwfO : Hid (Lit.wf (.int .i64 xO.1) = true) := Lib.hid (WalkArith.wf_i64 (by omega))
    have hwfK : Hid (Lit.wf (.int .i64 (xK : Int)) = true) := Lib.hid (WalkArith.wf_i64 (by omega))
    refine bodyPost_ret (v := .agg #[.int .i64 4, .string xU, .string ⟨#[]⟩, .int .i64 xT.1, .string xT.2, .int .i64 xO.1, .string xO.2, .string ⟨#[]⟩, .int .i64 (xK : Int), .slice none 0 0]) ?_ rfl ⟨⟨4, xU, ⟨#[]⟩, xT.1, xT.2, xO.1, xO.2, ⟨#[]⟩, (xK : Int), []⟩, none, 0, 0, (nx (nx (nx (nx (nx s pInt) pTxt) pTtl) pTtl) pInt), rfl, RdR.nil _ _ _, fun ad h => (by cases h), ⟨hw1.out, Nat.le_trans hxU HM.out, Nat.zero_le _, hwfT.out, Nat.le_trans hxT.2.2 HM.out, hwfO.out, Nat.le_trans hxO.2.2 HM.out, Nat.zero_le _, hwfK.out, fun r hr => (by cases hr)⟩, HSF.out, HC.out, HGF.out⟩
    simp [results, Tryd.results60, go_sem, kcz]
  · subst hkd
    clear HKK
    have kq3 := Blk.cell kb1
    go_wp2_with fail
    go_at_call 74
    refine (rtxtS w0 g M _ y3 hS2).mono ?_
    rintro e u4 ⟨xU, he, hxU, hSu, hp, hq⟩
    obtain rfl : e = .returned (.string xU) := he
    have HPU := Lib.hid hp
    rw [nx_def] at hSu
    have ku := heap_grown hq hn1.symm kb1
    have kru := heap_grown hq hn3.symm kr2
    clear kq3
    have hcu := Blk.cell ku
    have hfu := Blk.frozen ku
    have kw1 : (u4.setCell ⟨bc, 1, none⟩ (.string xU)).heap[bc]? = some (.cells #[.int .i64 5, .string xU, .string ⟨#[]⟩, .int .i64 0, .string ⟨#[]⟩, .int .i64 0, .string ⟨#[]⟩, .string ⟨#[]⟩, .int .i64 0, .slice none 0 0] 31 (0, 0)) := heap_set_near _ _ _ _ _ _ ku
    have kbU : (u4.setCell ⟨bc, 1, none⟩ (.string xU)).heap[bc]? = _ := kw1
    have krU : (u4.setCell ⟨bc, 1, none⟩ (.string xU)).heap[W.heap.size]? = _ := ((heap_set_far _ _ _ _ _ hn5.symm).trans kru)
    have hSU := (hSu.set (i := 1) hn1 hbs.1 (.string xU))
    have hGU := (grown_setN (i := 1) (hg2.trans hq) hbs.2.2 (.string xU))
    clear kb1 kr2 hS2 hg2 ku kru hq hSu hp kw1
    go_upto_region 4 with fail
    clear hcu hfu
    generalize (u4.setCell ⟨bc, 1, none⟩ (.string xU)) = y4 at *
    have kq4 := Blk.cell kbU
    go_wp2_with fail
    go_at_call 75
    refine (rttlS w0 g M _ y4 hSU).mono ?_
    rintro e u5 ⟨xT, he, hxT, hSu, hp, hq⟩
    obtain rfl : e = .returned (.agg #[.int .i64 xT.1, .string xT.2]) := he
    have HPT := Lib.hid hp
    rw [nx_def] at hSu
    have ku := heap_grown hq hn1.symm kbU
    have kru := heap_grown hq hn3.symm krU
    clear kq4
    have hcu := Blk.cell ku
    have hfu := Blk.frozen ku
    have kw3 : (u5.setCell ⟨bc, 3, none⟩ (.int .i64 xT.1)).heap[bc]? = some (.cells #[.int .i64 5, .string xU, .string ⟨#[]⟩, .int .i64 xT.1, .string ⟨#[]⟩, .int .i64 0, .string ⟨#[]⟩, .string ⟨#[]⟩, .int .i64 0, .slice none 0 0] 31 (0, 0)) := heap_set_near _ _ _ _ _ _ ku
    have kw4 : ((u5.setCell ⟨bc, 3, none⟩ (.int .i64 xT.1)).setCell ⟨bc, 4, none⟩ (.string xT.2)).heap[bc]? = some (.cells #[.int .i64 5, .string xU, .string ⟨#[]⟩, .int .i64 xT.1, .string xT.2, .int .i64 0, .string ⟨#[]⟩, .string ⟨#[]⟩, .int .i64 0, .slice none 0 0] 31 (0, 0)) := heap_set_near _ _ _ _ _ _ kw3
    have kbT : ((u5.setCell ⟨bc, 3, none⟩ (.int .i64 xT.1)).setCell ⟨bc, 4, none⟩ (.string xT.2)).heap[bc]? = _ := kw4
    have krT : ((u5.setCell ⟨bc, 3, none⟩ (.int .i64 xT.1)).setCell ⟨bc, 4, none⟩ (.string xT.2)).heap[W.heap.size]? = _ := ((heap_set_far _ _ _ _ _ hn5.symm).trans ((heap_set_far _ _ _ _ _ hn5.symm).trans kru))
    have hST := ((hSu.set (i := 3) hn1 hbs.1 (.int .i64 xT.1)).set (i := 4) hn1 hbs.1 (.string xT.2))
    have hGT := (grown_setN (i := 4) (grown_setN (i := 3) (hGU.trans hq) hbs.2.2 (.int .i64 xT.1)) hbs.2.2 (.string xT.2))
    clear kbU krU hSU hGU ku kru hq hSu hp kw3 kw4
    go_upto_region 8 with fail
    clear hcu hfu
    generalize ((u5.setCell ⟨bc, 3, none⟩ (.int .i64 xT.1)).setCell ⟨bc, 4, none⟩ (.string xT.2)) = y5 at *
    have kq5 := Blk.cell kbT
    go_wp2_with fail
    go_at_call 59
    refine (rnumS w0 g M _ y5 hST).mono ?_
    rintro e u6 ⟨v5, he, hv5, hS5, hp5, hq5⟩
    obtain rfl : e = .returned (.int .i64 (v5 : Int)) := he
    have kb5 := heap_grown hq5 hn1.symm kbT
    have kr5 := heap_grown hq5 hn3.symm krT
    have hG5 := hGT.trans hq5
    clear kq5 kbT krT hST hGT hq5
    have HP5 : Hid ((v5 ≤ 40 ∧ (nx (nx (nx s pInt) pTxt) pTtl).bind pHst = (((((nx (nx (nx s pInt) pTxt) pTtl)).bind pNum).map (·.2)).bind (pRs 0 (v5 - 0))).map fun b => ([] ++ b.1, b.2)) ∨ (40 < v5 ∧ (nx (nx (nx s pInt) pTxt) pTtl).bind pHst = none)) := Lib.hid (by
      by_cases h40 : 40 < v5
      · exact .inr ⟨h40, pHst_big hp5 h40⟩
      · exact .inl ⟨by omega, pHst_start hp5 h40⟩)
    have HRB : Hid (w0.heap.size ≤ bc + 1 ∧ W.heap.size ≤ bc + 1 ∧ g < bc + 1 ∧ bc < bc + 1 ∧ W.heap.size < bc + 1) := Lib.hid (by omega)
    have hbl := Blk.lt kb5
    have hwfT : Hid (Lit.wf (.int .i64 xT.1) = true) := Lib.hid (WalkArith.wf_i64 (by omega))
    clear hp5
    go_wp2_with fail
    go_loopw [5] (fun q wr => ∃ (i : Nat) (A : Option Addr) (n c : Nat) (L : List Rv) (si : Option (List UInt8)), i ≤ v5 ∧ i ≤ 41 ∧ q = .int .i64 i ∧ wr.heap[bc]? = some (.cells #[.int .i64 5, .string xU, .string ⟨#[]⟩, .int .i64 xT.1, .string xT.2, .int .i64 0, .string ⟨#[]⟩, .string ⟨#[]⟩, .int .i64 0, .slice A n c] 31 (0, 0)) ∧ wr.heap[W.heap.size]? = some (.cells #[.int .i64 0, .string ⟨#[]⟩, .string ⟨#[]⟩, .int .i64 0, .string ⟨#[]⟩, .int .i64 0, .string ⟨#[]⟩, .string ⟨#[]⟩, .int .i64 0, .slice none 0 0] 31 (0, 0)) ∧ OwR RV 6 wr (bc + 1) 67 A n c L ∧ n = i ∧ Hid (∀ r ∈ L, RvWf r) ∧ Sta 98 w0 wr g M si ∧ W.grownBy wr (some g) ∧ Hid ((v5 ≤ 40 ∧ (nx (nx (nx s pInt) pTxt) pTtl).bind pHst = (si.bind (pRs i (v5 - i))).map fun b => (L ++ b.1, b.2)) ∨ (40 < v5 ∧ (nx (nx (nx s pInt) pTxt) pTtl).bind pHst = none))) (fun q _ => 41 - (intOf q).toNat)
    case atStart => exact ⟨0, none, 0, 0, [], _, Nat.zero_le _, Nat.zero_le _, rfl, kb5, kr5, OwR.nil _ _ _ _ _, rfl, Lib.hid (fun r hr => by cases hr), hS5, hG5, HP5⟩
    case round =>
      obtain ⟨i, A, n, c, L, si, hi, hi41, rfl, kbw, krw, ho, hni, HWF, hS, hg, HP⟩ := hrel
      subst hni
      clear hS5 HP5 kb5 kr5 hG5
      obtain ⟨Ar, nr, cr, kg⟩ := hS.cells
      have kcg := Blk.cell kg
      have hgz := hS.lt
      have z0 : (0 : Int) ≤ (n : Int) := by omega
      have HLL := Lib.hid ho.len
      cases si with
      | none =>
        by_cases hlt : n < v5
        · by_cases h41 : n < 41
          · have z2 : (n : Int) < (v5 : Int) := by omega
            have z3 : (n : Int) < 41 := by omega
            have HE := Lib.hid (hist_fin (u := xU) (t := xT) HP1.out HPU.out HPT.out (hist_end HP.out hi HLL.out.symm hi41 (.inl rfl)))
            have hne : A.map (·.block) ≠ some W.heap.size := fun hh => by have := (OwV.lt ho _ hh).1; have := HRB.out.2.2.2.2; omega
            have HOF := Lib.hid (OwV.st (i := 9) (u := .slice A n c) (OwV.st (i := 8) (u := .int .i64 0) (OwV.st (i := 7) (u := .string ⟨#[]⟩) (OwV.st (i := 6) (u := .string ⟨#[]⟩) (OwV.st (i := 5) (u := .int .i64 0) (OwV.st (i := 4) (u := .string xT.2) (OwV.st (i := 3) (u := .int .i64 xT.1) (OwV.st (i := 2) (u := .string ⟨#[]⟩) (OwV.st (i := 1) (u := .string xU) (OwV.st (i := 0) (u := .int .i64 5) ho hne) hne) hne) hne) hne) hne) hne) hne) hne) hne)
            have HSE := Lib.hid hS
            have HGE := Lib.hid hg
            clear hS hg ho hne HP
            have kcb := Blk.cell kbw
            have kfr := Blk.frozen krw
            have kcr0 := Blk.cell krw
            have kz0 : (wr.setCell ⟨W.heap.size, 0, none⟩ (.int .i64 5)).heap[W.heap.size]? = some (.cells #[.int .i64 5, .string ⟨#[]⟩, .string ⟨#[]⟩, .int .i64 0, .string ⟨#[]⟩, .int .i64 0, .string ⟨#[]⟩, .string ⟨#[]⟩, .int .i64 0, .slice none 0 0] 31 (0, 0)) := heap_set_near _ _ _ _ _ _ krw
            have kz1 : ((wr.setCell ⟨W.heap.size, 0, none⟩ (.int .i64 5)).setCell ⟨W.heap.size, 1, none⟩ (.string xU)).heap[W.heap.size]? = some (.cells #[.int .i64 5, .string xU, .string ⟨#[]⟩, .int .i64 0, .string ⟨#[]⟩, .int .i64 0, .string ⟨#[]⟩, .string ⟨#[]⟩, .int .i64 0, .slice none 0 0] 31 (0, 0)) := heap_set_near _ _ _ _ _ _ kz0
            have kz2 : (((wr.setCell ⟨W.heap.size, 0, none⟩ (.int .i64 5)).setCell ⟨W.heap.size, 1, none⟩ (.string xU)).setCell ⟨W.heap.size, 2, none⟩ (.string ⟨#[]⟩)).heap[W.heap.size]? = some (.cells #[.int .i64 5, .string xU, .string ⟨#[]⟩, .int .i64 0, .string ⟨#[]⟩, .int .i64 0, .string ⟨#[]⟩, .string ⟨#[]⟩, .int .i64 0, .slice none 0 0] 31 (0, 0)) := heap_set_near _ _ _ _ _ _ kz1
            have kz3 : ((((wr.setCell ⟨W.heap.size, 0, none⟩ (.int .i64 5)).setCell ⟨W.heap.size, 1, none⟩ (.string xU)).setCell ⟨W.heap.size, 2, none⟩ (.string ⟨#[]⟩)).setCell ⟨W.heap.size, 3, none⟩ (.int .i64 xT.1)).heap[W.heap.size]? = some (.cells #[.int .i64 5, .string xU, .string ⟨#[]⟩, .int .i64 xT.1, .string ⟨#[]⟩, .int .i64 0, .string ⟨#[]⟩, .string ⟨#[]⟩, .int .i64 0, .slice none 0 0] 31 (0, 0)) := heap_set_near _ _ _ _ _ _ kz2
            have kz4 : (((((wr.setCell ⟨W.heap.size, 0, none⟩ (.int .i64 5)).setCell ⟨W.heap.size, 1, none⟩ (.string xU)).setCell ⟨W.heap.size, 2, none⟩ (.string ⟨#[]⟩)).setCell ⟨W.heap.size, 3, none⟩ (.int .i64 xT.1)).setCell ⟨W.heap.size, 4, none⟩ (.string xT.2)).heap[W.heap.size]? = some (.cells #[.int .i64 5, .string xU, .string ⟨#[]⟩, .int .i64 xT.1, .string xT.2, .int .i64 0, .string ⟨#[]⟩, .string ⟨#[]⟩, .int .i64 0, .slice none 0 0] 31 (0, 0)) := heap_set_near _ _ _ _ _ _ kz3
            have kz5 : ((((((wr.setCell ⟨W.heap.size, 0, none⟩ (.int .i64 5)).setCell ⟨W.heap.size, 1, none⟩ (.string xU)).setCell ⟨W.heap.size, 2, none⟩ (.string ⟨#[]⟩)).setCell ⟨W.heap.size, 3, none⟩ (.int .i64 xT.1)).setCell ⟨W.heap.size, 4, none⟩ (.string xT.2)).setCell ⟨W.heap.size, 5, none⟩ (.int .i64 0)).heap[W.heap.size]? = some (.cells #[.int .i64 5, .string xU, .string ⟨#[]⟩, .int .i64 xT.1, .string xT.2, .int .i64 0, .string ⟨#[]⟩, .string ⟨#[]⟩, .int .i64 0, .slice none 0 0] 31 (0, 0)) := heap_set_near _ _ _ _ _ _ kz4
            have kz6 : (((((((wr.setCell ⟨W.heap.size, 0, none⟩ (.int .i64 5)).setCell ⟨W.heap.size, 1, none⟩ (.string xU)).setCell ⟨W.heap.size, 2, none⟩ (.string ⟨#[]⟩)).setCell ⟨W.heap.size, 3, none⟩ (.int .i64 xT.1)).setCell ⟨W.heap.size, 4, none⟩ (.string xT.2)).setCell ⟨W.heap.size, 5, none⟩ (.int .i64 0)).setCell ⟨W.heap.size, 6, none⟩ (.string ⟨#[]⟩)).heap[W.heap.size]? = some (.cells #[.int .i64 5, .string xU, .string ⟨#[]⟩, .int .i64 xT.1, .string xT.2, .int .i64 0, .string ⟨#[]⟩, .string ⟨#[]⟩, .int .i64 0, .slice none 0 0] 31 (0, 0)) := heap_set_near _ _ _ _ _ _ kz5
            have kz7 : ((((((((wr.setCell ⟨W.heap.size, 0, none⟩ (.int .i64 5)).setCell ⟨W.heap.size, 1, none⟩ (.string xU)).setCell ⟨W.heap.size, 2, none⟩ (.string ⟨#[]⟩)).setCell ⟨W.heap.size, 3, none⟩ (.int .i64 xT.1)).setCell ⟨W.heap.size, 4, none⟩ (.string xT.2)).setCell ⟨W.heap.size, 5, none⟩ (.int .i64 0)).setCell ⟨W.heap.size, 6, none⟩ (.string ⟨#[]⟩)).setCell ⟨W.heap.size, 7, none⟩ (.string ⟨#[]⟩)).heap[W.heap.size]? = some (.cells #[.int .i64 5, .string xU, .string ⟨#[]⟩, .int .i64 xT.1, .string xT.2, .int .i64 0, .string ⟨#[]⟩, .string ⟨#[]⟩, .int .i64 0, .slice none 0 0] 31 (0, 0)) := heap_set_near _ _ _ _ _ _ kz6
            have kz8 : (((((((((wr.setCell ⟨W.heap.size, 0, none⟩ (.int .i64 5)).setCell ⟨W.heap.size, 1, none⟩ (.string xU)).setCell ⟨W.heap.size, 2, none⟩ (.string ⟨#[]⟩)).setCell ⟨W.heap.size, 3, none⟩ (.int .i64 xT.1)).setCell ⟨W.heap.size, 4, none⟩ (.string xT.2)).setCell ⟨W.heap.size, 5, none⟩ (.int .i64 0)).setCell ⟨W.heap.size, 6, none⟩ (.string ⟨#[]⟩)).setCell ⟨W.heap.size, 7, none⟩ (.string ⟨#[]⟩)).setCell ⟨W.heap.size, 8, none⟩ (.int .i64 0)).heap[W.heap.size]? = some (.cells #[.int .i64 5, .string xU, .string ⟨#[]⟩, .int .i64 xT.1, .string xT.2, .int .i64 0, .string ⟨#[]⟩, .string ⟨#[]⟩, .int .i64 0, .slice none 0 0] 31 (0, 0)) := heap_set_near _ _ _ _ _ _ kz7
            have kz9 : ((((((((((wr.setCell ⟨W.heap.size, 0, none⟩ (.int .i64 5)).setCell ⟨W.heap.size, 1, none⟩ (.string xU)).setCell ⟨W.heap.size, 2, none⟩ (.string ⟨#[]⟩)).setCell ⟨W.heap.size, 3, none⟩ (.int .i64 xT.1)).setCell ⟨W.heap.size, 4, none⟩ (.string xT.2)).setCell ⟨W.heap.size, 5, none⟩ (.int .i64 0)).setCell ⟨W.heap.size, 6, none⟩ (.string ⟨#[]⟩)).setCell ⟨W.heap.size, 7, none⟩ (.string ⟨#[]⟩)).setCell ⟨W.heap.size, 8, none⟩ (.int .i64 0)).setCell ⟨W.heap.size, 9, none⟩ (.slice A n c)).heap[W.heap.size]? = some (.cells #[.int .i64 5, .string xU, .string ⟨#[]⟩, .int .i64 xT.1, .string xT.2, .int .i64 0, .string ⟨#[]⟩, .string ⟨#[]⟩, .int .i64 0, .slice A n c] 31 (0, 0)) := heap_set_near _ _ _ _ _ _ kz8
            have kcz := Blk.cell kz9
            have HSF := Lib.hid ((((((((((HSE.out.set (i := 0) hn3 hbs.2.1 (.int .i64 5)).set (i := 1) hn3 hbs.2.1 (.string xU)).set (i := 2) hn3 hbs.2.1 (.string ⟨#[]⟩)).set (i := 3) hn3 hbs.2.1 (.int .i64 xT.1)).set (i := 4) hn3 hbs.2.1 (.string xT.2)).set (i := 5) hn3 hbs.2.1 (.int .i64 0)).set (i := 6) hn3 hbs.2.1 (.string ⟨#[]⟩)).set (i := 7) hn3 hbs.2.1 (.string ⟨#[]⟩)).set (i := 8) hn3 hbs.2.1 (.int .i64 0)).set (i := 9) hn3 hbs.2.1 (.slice A n c))
            have HGF := Lib.hid (grown_setN (i := 9) (grown_setN (i := 8) (grown_setN (i := 7) (grown_setN (i := 6) (grown_setN (i := 5) (grown_setN (i := 4) (grown_setN (i := 3) (grown_setN (i := 2) (grown_setN (i := 1) (grown_setN (i := 0) HGE.out (Nat.le_refl _) (.int .i64 5)) (Nat.le_refl _) (.string xU)) (Nat.le_refl _) (.string ⟨#[]⟩)) (Nat.le_refl _) (.int .i64 xT.1)) (Nat.le_refl _) (.string xT.2)) (Nat.le_refl _) (.int .i64 0)) (Nat.le_refl _) (.string ⟨#[]⟩)) (Nat.le_refl _) (.string ⟨#[]⟩)) (Nat.le_refl _) (.int .i64 0)) (Nat.le_refl _) (.slice A n c))
            clear kz0 kz1 kz2 kz3 kz4 kz5 kz6 kz7 kz8 kz9
            go_wp2_with fail
            refine bodyPost_ret (v := .agg #[.int .i64 5, .string xU, .string ⟨#[]⟩, .int .i64 xT.1, .string xT.2, .int .i64 0, .string ⟨#[]⟩, .string ⟨#[]⟩, .int .i64 0, .slice A n c]) ?_ rfl ⟨⟨5, xU, ⟨#[]⟩, xT.1, xT.2, 0, ⟨#[]⟩, ⟨#[]⟩, 0, L⟩, A, n, c, none, rfl, HOF.out.rd, OwV.ty HOF.out, ⟨hw1.out, Nat.le_trans hxU HM.out, Nat.zero_le _, hwfT.out, Nat.le_trans hxT.2.2 HM.out, hw0.out, Nat.zero_le _, Nat.zero_le _, hw0.out, HWF.out⟩, HSF.out, HE.out, HGF.out⟩
            simp [results, Tryd.results60, go_sem, kcz]
          · have z2 : (n : Int) < (v5 : Int) := by omega
            have z3 : ¬ (n : Int) < 41 := by omega
            have HE := Lib.hid (hist_fin (u := xU) (t := xT) HP1.out HPU.out HPT.out (hist_end HP.out hi HLL.out.symm hi41 (.inl rfl)))
            have hne : A.map (·.block) ≠ some W.heap.size := fun hh => by have := (OwV.lt ho _ hh).1; have := HRB.out.2.2.2.2; omega
            have HOF := Lib.hid (OwV.st (i := 9) (u := .slice A n c) (OwV.st (i := 8) (u := .int .i64 0) (OwV.st (i := 7) (u := .string ⟨#[]⟩) (OwV.st (i := 6) (u := .string ⟨#[]⟩) (OwV.st (i := 5) (u := .int .i64 0) (OwV.st (i := 4) (u := .string xT.2) (OwV.st (i := 3) (u := .int .i64 xT.1) (OwV.st (i := 2) (u := .string ⟨#[]⟩) (OwV.st (i := 1) (u := .string xU) (OwV.st (i := 0) (u := .int .i64 5) ho hne) hne) hne) hne) hne) hne) hne) hne) hne) hne)
            have HSE := Lib.hid hS
            have HGE := Lib.hid hg
            clear hS hg ho hne HP
            have kcb := Blk.cell kbw
            have kfr := Blk.frozen krw
            have kcr0 := Blk.cell krw
            have kz0 : (wr.setCell ⟨W.heap.size, 0, none⟩ (.int .i64 5)).heap[W.heap.size]? = some (.cells #[.int .i64 5, .string ⟨#[]⟩, .string ⟨#[]⟩, .int .i64 0, .string ⟨#[]⟩, .int .i64 0, .string ⟨#[]⟩, .string ⟨#[]⟩, .int .i64 0, .slice none 0 0] 31 (0, 0)) := heap_set_near _ _ _ _ _ _ krw
            have kz1 : ((wr.setCell ⟨W.heap.size, 0, none⟩ (.int .i64 5)).setCell ⟨W.heap.size, 1, none⟩ (.string xU)).heap[W.heap.size]? = some (.cells #[.int .i64 5, .string xU, .string ⟨#[]⟩, .int .i64 0, .string ⟨#[]⟩, .int .i64 0, .string ⟨#[]⟩, .string ⟨#[]⟩, .int .i64 0, .slice none 0 0] 31 (0, 0)) := heap_set_near _ _ _ _ _ _ kz0
            have kz2 : (((wr.setCell ⟨W.heap.size, 0, none⟩ (.int .i64 5)).setCell ⟨W.heap.size, 1, none⟩ (.string xU)).setCell ⟨W.heap.size, 2, none⟩ (.string ⟨#[]⟩)).heap[W.heap.size]? = some (.cells #[.int .i64 5, .string xU, .string ⟨#[]⟩, .int .i64 0, .string ⟨#[]⟩, .int .i64 0, .string ⟨#[]⟩, .string ⟨#[]⟩, .int .i64 0, .slice none 0 0] 31 (0, 0)) := heap_set_near _ _ _ _ _ _ kz1
            have kz3 : ((((wr.setCell ⟨W.heap.size, 0, none⟩ (.int .i64 5)).setCell ⟨W.heap.size, 1, none⟩ (.string xU)).setCell ⟨W.heap.size, 2, none⟩ (.string ⟨#[]⟩)).setCell ⟨W.heap.size, 3, none⟩ (.int .i64 xT.1)).heap[W.heap.size]? = some (.cells #[.int .i64 5, .string xU, .string ⟨#[]⟩, .int .i64 xT.1, .string ⟨#[]⟩, .int .i64 0, .string ⟨#[]⟩, .string ⟨#[]⟩, .int .i64 0, .slice none 0 0] 31 (0, 0)) := heap_set_near _ _ _ _ _ _ kz2
            have kz4 : (((((wr.setCell ⟨W.heap.size, 0, none⟩ (.int .i64 5)).setCell ⟨W.heap.size, 1, none⟩ (.string xU)).setCell ⟨W.heap.size, 2, none⟩ (.string ⟨#[]⟩)).setCell ⟨W.heap.size, 3, none⟩ (.int .i64 xT.1)).setCell ⟨W.heap.size, 4, none⟩ (.string xT.2)).heap[W.heap.size]? = some (.cells #[.int .i64 5, .string xU, .string ⟨#[]⟩, .int .i64 xT.1, .string xT.2, .int .i64 0, .string ⟨#[]⟩, .string ⟨#[]⟩, .int .i64 0, .slice none 0 0] 31 (0, 0)) := heap_set_near _ _ _ _ _ _ kz3
            have kz5 : ((((((wr.setCell ⟨W.heap.size, 0, none⟩ (.int .i64 5)).setCell ⟨W.heap.size, 1, none⟩ (.string xU)).setCell ⟨W.heap.size, 2, none⟩ (.string ⟨#[]⟩)).setCell ⟨W.heap.size, 3, none⟩ (.int .i64 xT.1)).setCell ⟨W.heap.size, 4, none⟩ (.string xT.2)).setCell ⟨W.heap.size, 5, none⟩ (.int .i64 0)).heap[W.heap.size]? = some (.cells #[.int .i64 5, .string xU, .string ⟨#[]⟩, .int .i64 xT.1, .string xT.2, .int .i64 0, .string ⟨#[]⟩, .string ⟨#[]⟩, .int .i64 0, .slice none 0 0] 31 (0, 0)) := heap_set_near _ _ _ _ _ _ kz4
            have kz6 : (((((((wr.setCell ⟨W.heap.size, 0, none⟩ (.int .i64 5)).setCell ⟨W.heap.size, 1, none⟩ (.string xU)).setCell ⟨W.heap.size, 2, none⟩ (.string ⟨#[]⟩)).setCell ⟨W.heap.size, 3, none⟩ (.int .i64 xT.1)).setCell ⟨W.heap.size, 4, none⟩ (.string xT.2)).setCell ⟨W.heap.size, 5, none⟩ (.int .i64 0)).setCell ⟨W.heap.size, 6, none⟩ (.string ⟨#[]⟩)).heap[W.heap.size]? = some (.cells #[.int .i64 5, .string xU, .string ⟨#[]⟩, .int .i64 xT.1, .string xT.2, .int .i64 0, .string ⟨#[]⟩, .string ⟨#[]⟩, .int .i64 0, .slice none 0 0] 31 (0, 0)) := heap_set_near _ _ _ _ _ _ kz5
            have kz7 : ((((((((wr.setCell ⟨W.heap.size, 0, none⟩ (.int .i64 5)).setCell ⟨W.heap.size, 1, none⟩ (.string xU)).setCell ⟨W.heap.size, 2, none⟩ (.string ⟨#[]⟩)).setCell ⟨W.heap.size, 3, none⟩ (.int .i64 xT.1)).setCell ⟨W.heap.size, 4, none⟩ (.string xT.2)).setCell ⟨W.heap.size, 5, none⟩ (.int .i64 0)).setCell ⟨W.heap.size, 6, none⟩ (.string ⟨#[]⟩)).setCell ⟨W.heap.size, 7, none⟩ (.string ⟨#[]⟩)).heap[W.heap.size]? = some (.cells #[.int .i64 5, .string xU, .string ⟨#[]⟩, .int .i64 xT.1, .string xT.2, .int .i64 0, .string ⟨#[]⟩, .string ⟨#[]⟩, .int .i64 0, .slice none 0 0] 31 (0, 0)) := heap_set_near _ _ _ _ _ _ kz6
            have kz8 : (((((((((wr.setCell ⟨W.heap.size, 0, none⟩ (.int .i64 5)).setCell ⟨W.heap.size, 1, none⟩ (.string xU)).setCell ⟨W.heap.size, 2, none⟩ (.string ⟨#[]⟩)).setCell ⟨W.heap.size, 3, none⟩ (.int .i64 xT.1)).setCell ⟨W.heap.size, 4, none⟩ (.string xT.2)).setCell ⟨W.heap.size, 5, none⟩ (.int .i64 0)).setCell ⟨W.heap.size, 6, none⟩ (.string ⟨#[]⟩)).setCell ⟨W.heap.size, 7, none⟩ (.string ⟨#[]⟩)).setCell ⟨W.heap.size, 8, none⟩ (.int .i64 0)).heap[W.heap.size]? = some (.cells #[.int .i64 5, .string xU, .string ⟨#[]⟩, .int .i64 xT.1, .string xT.2, .int .i64 0, .string ⟨#[]⟩, .string ⟨#[]⟩, .int .i64 0, .slice none 0 0] 31 (0, 0)) := heap_set_near _ _ _ _ _ _ kz7
            have kz9 : ((((((((((wr.setCell ⟨W.heap.size, 0, none⟩ (.int .i64 5)).setCell ⟨W.heap.size, 1, none⟩ (.string xU)).setCell ⟨W.heap.size, 2, none⟩ (.string ⟨#[]⟩)).setCell ⟨W.heap.size, 3, none⟩ (.int .i64 xT.1)).setCell ⟨W.heap.size, 4, none⟩ (.string xT.2)).setCell ⟨W.heap.size, 5, none⟩ (.int .i64 0)).setCell ⟨W.heap.size, 6, none⟩ (.string ⟨#[]⟩)).setCell ⟨W.heap.size, 7, none⟩ (.string ⟨#[]⟩)).setCell ⟨W.heap.size, 8, none⟩ (.int .i64 0)).setCell ⟨W.heap.size, 9, none⟩ (.slice A n c)).heap[W.heap.size]? = some (.cells #[.int .i64 5, .string xU, .string ⟨#[]⟩, .int .i64 xT.1, .string xT.2, .int .i64 0, .string ⟨#[]⟩, .string ⟨#[]⟩, .int .i64 0, .slice A n c] 31 (0, 0)) := heap_set_near _ _ _ _ _ _ kz8
            have kcz := Blk.cell kz9
            have HSF := Lib.hid ((((((((((HSE.out.set (i := 0) hn3 hbs.2.1 (.int .i64 5)).set (i := 1) hn3 hbs.2.1 (.string xU)).set (i := 2) hn3 hbs.2.1 (.string ⟨#[]⟩)).set (i := 3) hn3 hbs.2.1 (.int .i64 xT.1)).set (i := 4) hn3 hbs.2.1 (.string xT.2)).set (i := 5) hn3 hbs.2.1 (.int .i64 0)).set (i := 6) hn3 hbs.2.1 (.string ⟨#[]⟩)).set (i := 7) hn3 hbs.2.1 (.string ⟨#[]⟩)).set (i := 8) hn3 hbs.2.1 (.int .i64 0)).set (i := 9) hn3 hbs.2.1 (.slice A n c))
            have HGF := Lib.hid (grown_setN (i := 9) (grown_setN (i := 8) (grown_setN (i := 7) (grown_setN (i := 6) (grown_setN (i := 5) (grown_setN (i := 4) (grown_setN (i := 3) (grown_setN (i := 2) (grown_setN (i := 1) (grown_setN (i := 0) HGE.out (Nat.le_refl _) (.int .i64 5)) (Nat.le_refl _) (.string xU)) (Nat.le_refl _) (.string ⟨#[]⟩)) (Nat.le_refl _) (.int .i64 xT.1)) (Nat.le_refl _) (.string xT.2)) (Nat.le_refl _) (.int .i64 0)) (Nat.le_refl _) (.string ⟨#[]⟩)) (Nat.le_refl _) (.string ⟨#[]⟩)) (Nat.le_refl _) (.int .i64 0)) (Nat.le_refl _) (.slice A n c))
            clear kz0 kz1 kz2 kz3 kz4 kz5 kz6 kz7 kz8 kz9
            go_wp2_with fail
            refine bodyPost_ret (v := .agg #[.int .i64 5, .string xU, .string ⟨#[]⟩, .int .i64 xT.1, .string xT.2, .int .i64 0, .string ⟨#[]⟩, .string ⟨#[]⟩, .int .i64 0, .slice A n c]) ?_ rfl ⟨⟨5, xU, ⟨#[]⟩, xT.1, xT.2, 0, ⟨#[]⟩, ⟨#[]⟩, 0, L⟩, A, n, c, none, rfl, HOF.out.rd, OwV.ty HOF.out, ⟨hw1.out, Nat.le_trans hxU HM.out, Nat.zero_le _, hwfT.out, Nat.le_trans hxT.2.2 HM.out, hw0.out, Nat.zero_le _, Nat.zero_le _, hw0.out, HWF.out⟩, HSF.out, HE.out, HGF.out⟩
            simp [results, Tryd.results60, go_sem, kcz]
        · have z2 : ¬ (n : Int) < (v5 : Int) := by omega
          have HE := Lib.hid (hist_fin (u := xU) (t := xT) HP1.out HPU.out HPT.out (hist_end HP.out hi HLL.out.symm hi41 (.inl rfl)))
          have hne : A.map (·.block) ≠ some W.heap.size := fun hh => by have := (OwV.lt ho _ hh).1; have := HRB.out.2.2.2.2; omega
          have HOF := Lib.hid (OwV.st (i := 9) (u := .slice A n c) (OwV.st (i := 8) (u := .int .i64 0) (OwV.st (i := 7) (u := .string ⟨#[]⟩) (OwV.st (i := 6) (u := .string ⟨#[]⟩) (OwV.st (i := 5) (u := .int .i64 0) (OwV.st (i := 4) (u := .string xT.2) (OwV.st (i := 3) (u := .int .i64 xT.1) (OwV.st (i := 2) (u := .string ⟨#[]⟩) (OwV.st (i := 1) (u := .string xU) (OwV.st (i := 0) (u := .int .i64 5) ho hne) hne) hne) hne) hne) hne) hne) hne) hne) hne)
          have HSE := Lib.hid hS
          have HGE := Lib.hid hg
          clear hS hg ho hne HP
          have kcb := Blk.cell kbw
          have kfr := Blk.frozen krw
          have kcr0 := Blk.cell krw
          have kz0 : (wr.setCell ⟨W.heap.size, 0, none⟩ (.int .i64 5)).heap[W.heap.size]? = some (.cells #[.int .i64 5, .string ⟨#[]⟩, .string ⟨#[]⟩, .int .i64 0, .string ⟨#[]⟩, .int .i64 0, .string ⟨#[]⟩, .string ⟨#[]⟩, .int .i64 0, .slice none 0 0] 31 (0, 0)) := heap_set_near _ _ _ _ _ _ krw
          have kz1 : ((wr.setCell ⟨W.heap.size, 0, none⟩ (.int .i64 5)).setCell ⟨W.heap.size, 1, none⟩ (.string xU)).heap[W.heap.size]? = some (.cells #[.int .i64 5, .string xU, .string ⟨#[]⟩, .int .i64 0, .string ⟨#[]⟩, .int .i64 0, .string ⟨#[]⟩, .string ⟨#[]⟩, .int .i64 0, .slice none 0 0] 31 (0, 0)) := heap_set_near _ _ _ _ _ _ kz0
          have kz2 : (((wr.setCell ⟨W.heap.size, 0, none⟩ (.int .i64 5)).setCell ⟨W.heap.size, 1, none⟩ (.string xU)).setCell ⟨W.heap.size, 2, none⟩ (.string ⟨#[]⟩)).heap[W.heap.size]? = some (.cells #[.int .i64 5, .string xU, .string ⟨#[]⟩, .int .i64 0, .string ⟨#[]⟩, .int .i64 0, .string ⟨#[]⟩, .string ⟨#[]⟩, .int .i64 0, .slice none 0 0] 31 (0, 0)) := heap_set_near _ _ _ _ _ _ kz1
          have kz3 : ((((wr.setCell ⟨W.heap.size, 0, none⟩ (.int .i64 5)).setCell ⟨W.heap.size, 1, none⟩ (.string xU)).setCell ⟨W.heap.size, 2, none⟩ (.string ⟨#[]⟩)).setCell ⟨W.heap.size, 3, none⟩ (.int .i64 xT.1)).heap[W.heap.size]? = some (.cells #[.int .i64 5, .string xU, .string ⟨#[]⟩, .int .i64 xT.1, .string ⟨#[]⟩, .int .i64 0, .string ⟨#[]⟩, .string ⟨#[]⟩, .int .i64 0, .slice none 0 0] 31 (0, 0)) := heap_set_near _ _ _ _ _ _ kz2
          have kz4 : (((((wr.setCell ⟨W.heap.size, 0, none⟩ (.int .i64 5)).setCell ⟨W.heap.size, 1, none⟩ (.string xU)).setCell ⟨W.heap.size, 2, none⟩ (.string ⟨#[]⟩)).setCell ⟨W.heap.size, 3, none⟩ (.int .i64 xT.1)).setCell ⟨W.heap.size, 4, none⟩ (.string xT.2)).heap[W.heap.size]? = some (.cells #[.int .i64 5, .string xU, .string ⟨#[]⟩, .int .i64 xT.1, .string xT.2, .int .i64 0, .string ⟨#[]⟩, .string ⟨#[]⟩, .int .i64 0, .slice none 0 0] 31 (0, 0)) := heap_set_near _ _ _ _ _ _ kz3
          have kz5 : ((((((wr.setCell ⟨W.heap.size, 0, none⟩ (.int .i64 5)).setCell ⟨W.heap.size, 1, none⟩ (.string xU)).setCell ⟨W.heap.size, 2, none⟩ (.string ⟨#[]⟩)).setCell ⟨W.heap.size, 3, none⟩ (.int .i64 xT.1)).setCell ⟨W.heap.size, 4, none⟩ (.string xT.2)).setCell ⟨W.heap.size, 5, none⟩ (.int .i64 0)).heap[W.heap.size]? = some (.cells #[.int .i64 5, .string xU, .string ⟨#[]⟩, .int .i64 xT.1, .string xT.2, .int .i64 0, .string ⟨#[]⟩, .string ⟨#[]⟩, .int .i64 0, .slice none 0 0] 31 (0, 0)) := heap_set_near _ _ _ _ _ _ kz4
          have kz6 : (((((((wr.setCell ⟨W.heap.size, 0, none⟩ (.int .i64 5)).setCell ⟨W.heap.size, 1, none⟩ (.string xU)).setCell ⟨W.heap.size, 2, none⟩ (.string ⟨#[]⟩)).setCell ⟨W.heap.size, 3, none⟩ (.int .i64 xT.1)).setCell ⟨W.heap.size, 4, none⟩ (.string xT.2)).setCell ⟨W.heap.size, 5, none⟩ (.int .i64 0)).setCell ⟨W.heap.size, 6, none⟩ (.string ⟨#[]⟩)).heap[W.heap.size]? = some (.cells #[.int .i64 5, .string xU, .string ⟨#[]⟩, .int .i64 xT.1, .string xT.2, .int .i64 0, .string ⟨#[]⟩, .string ⟨#[]⟩, .int .i64 0, .slice none 0 0] 31 (0, 0)) := heap_set_near _ _ _ _ _ _ kz5
          have kz7 : ((((((((wr.setCell ⟨W.heap.size, 0, none⟩ (.int .i64 5)).setCell ⟨W.heap.size, 1, none⟩ (.string xU)).setCell ⟨W.heap.size, 2, none⟩ (.string ⟨#[]⟩)).setCell ⟨W.heap.size, 3, none⟩ (.int .i64 xT.1)).setCell ⟨W.heap.size, 4, none⟩ (.string xT.2)).setCell ⟨W.heap.size, 5, none⟩ (.int .i64 0)).setCell ⟨W.heap.size, 6, none⟩ (.string ⟨#[]⟩)).setCell ⟨W.heap.size, 7, none⟩ (.string ⟨#[]⟩)).heap[W.heap.size]? = some (.cells #[.int .i64 5, .string xU, .string ⟨#[]⟩, .int .i64 xT.1, .string xT.2, .int .i64 0, .string ⟨#[]⟩, .string ⟨#[]⟩, .int .i64 0, .slice none 0 0] 31 (0, 0)) := heap_set_near _ _ _ _ _ _ kz6
          have kz8 : (((((((((wr.setCell ⟨W.heap.size, 0, none⟩ (.int .i64 5)).setCell ⟨W.heap.size, 1, none⟩ (.string xU)).setCell ⟨W.heap.size, 2, none⟩ (.string ⟨#[]⟩)).setCell ⟨W.heap.size, 3, none⟩ (.int .i64 xT.1)).setCell ⟨W.heap.size, 4, none⟩ (.string xT.2)).setCell ⟨W.heap.size, 5, none⟩ (.int .i64 0)).setCell ⟨W.heap.size, 6, none⟩ (.string ⟨#[]⟩)).setCell ⟨W.heap.size, 7, none⟩ (.string ⟨#[]⟩)).setCell ⟨W.heap.size, 8, none⟩ (.int .i64 0)).heap[W.heap.size]? = some (.cells #[.int .i64 5, .string xU, .string ⟨#[]⟩, .int .i64 xT.1, .string xT.2, .int .i64 0, .string ⟨#[]⟩, .string ⟨#[]⟩, .int .i64 0, .slice none 0 0] 31 (0, 0)) := heap_set_near _ _ _ _ _ _ kz7
          have kz9 : ((((((((((wr.setCell ⟨W.heap.size, 0, none⟩ (.int .i64 5)).setCell ⟨W.heap.size, 1, none⟩ (.string xU)).setCell ⟨W.heap.size, 2, none⟩ (.string ⟨#[]⟩)).setCell ⟨W.heap.size, 3, none⟩ (.int .i64 xT.1)).setCell ⟨W.heap.size, 4, none⟩ (.string xT.2)).setCell ⟨W.heap.size, 5, none⟩ (.int .i64 0)).setCell ⟨W.heap.size, 6, none⟩ (.string ⟨#[]⟩)).setCell ⟨W.heap.size, 7, none⟩ (.string ⟨#[]⟩)).setCell ⟨W.heap.size, 8, none⟩ (.int .i64 0)).setCell ⟨W.heap.size, 9, none⟩ (.slice A n c)).heap[W.heap.size]? = some (.cells #[.int .i64 5, .string xU, .string ⟨#[]⟩, .int .i64 xT.1, .string xT.2, .int .i64 0, .string ⟨#[]⟩, .string ⟨#[]⟩, .int .i64 0, .slice A n c] 31 (0, 0)) := heap_set_near _ _ _ _ _ _ kz8
          have kcz := Blk.cell kz9
          have HSF := Lib.hid ((((((((((HSE.out.set (i := 0) hn3 hbs.2.1 (.int .i64 5)).set (i := 1) hn3 hbs.2.1 (.string xU)).set (i := 2) hn3 hbs.2.1 (.string ⟨#[]⟩)).set (i := 3) hn3 hbs.2.1 (.int .i64 xT.1)).set (i := 4) hn3 hbs.2.1 (.string xT.2)).set (i := 5) hn3 hbs.2.1 (.int .i64 0)).set (i := 6) hn3 hbs.2.1 (.string ⟨#[]⟩)).set (i := 7) hn3 hbs.2.1 (.string ⟨#[]⟩)).set (i := 8) hn3 hbs.2.1 (.int .i64 0)).set (i := 9) hn3 hbs.2.1 (.slice A n c))
          have HGF := Lib.hid (grown_setN (i := 9) (grown_setN (i := 8) (grown_setN (i := 7) (grown_setN (i := 6) (grown_setN (i := 5) (grown_setN (i := 4) (grown_setN (i := 3) (grown_setN (i := 2) (grown_setN (i := 1) (grown_setN (i := 0) HGE.out (Nat.le_refl _) (.int .i64 5)) (Nat.le_refl _) (.string xU)) (Nat.le_refl _) (.string ⟨#[]⟩)) (Nat.le_refl _) (.int .i64 xT.1)) (Nat.le_refl _) (.string xT.2)) (Nat.le_refl _) (.int .i64 0)) (Nat.le_refl _) (.string ⟨#[]⟩)) (Nat.le_refl _) (.string ⟨#[]⟩)) (Nat.le_refl _) (.int .i64 0)) (Nat.le_refl _) (.slice A n c))
          clear kz0 kz1 kz2 kz3 kz4 kz5 kz6 kz7 kz8 kz9
          go_wp2_with fail
          refine bodyPost_ret (v := .agg #[.int .i64 5, .string xU, .string ⟨#[]⟩, .int .i64 xT.1, .string xT.2, .int .i64 0, .string ⟨#[]⟩, .string ⟨#[]⟩, .int .i64 0, .slice A n c]) ?_ rfl ⟨⟨5, xU, ⟨#[]⟩, xT.1, xT.2, 0, ⟨#[]⟩, ⟨#[]⟩, 0, L⟩, A, n, c, none, rfl, HOF.out.rd, OwV.ty HOF.out, ⟨hw1.out, Nat.le_trans hxU HM.out, Nat.zero_le _, hwfT.out, Nat.le_trans hxT.2.2 HM.out, hw0.out, Nat.zero_le _, Nat.zero_le _, hw0.out, HWF.out⟩, HSF.out, HE.out, HGF.out⟩
          simp [results, Tryd.results60, go_sem, kcz]
      | some l =>
        by_cases hlt : n < v5
        · by_cases h41 : n < 41
          · have z2 : (n : Int) < (v5 : Int) := by omega
            have z3 : (n : Int) < 41 := by omega
            go_wp2_with fail
            have hal : Below wr.heap.size wr (wr.alloc (.cells #[.int .i64 ((n : Int) + 1), .string ⟨#[]⟩, .string ⟨#[]⟩, .string ⟨#[]⟩, .int .i64 0, .int .i64 0] 67)) := (Below.refl _ _).alloc (Nat.le_refl _) _
            have kv0 : (wr.alloc (.cells #[.int .i64 ((n : Int) + 1), .string ⟨#[]⟩, .string ⟨#[]⟩, .string ⟨#[]⟩, .int .i64 0, .int .i64 0] 67)).heap[wr.heap.size]? = some (.cells #[.int .i64 ((n : Int) + 1), .string ⟨#[]⟩, .string ⟨#[]⟩, .string ⟨#[]⟩, .int .i64 0, .int .i64 0] 67 (0, 0)) := heap_new rfl
            have hS0 := hS.call hal
            have ho0 := ho.call RV.stay hal
            have kbx0 := heap_call hal kbw
            have krx0 := heap_call hal krw
            have hg0 := hg.trans (World.grownBy_alloc wr (.cells #[.int .i64 ((n : Int) + 1), .string ⟨#[]⟩, .string ⟨#[]⟩, .string ⟨#[]⟩, .int .i64 0, .int .i64 0] 67) (some g))
            have hAb : A.map (·.block) ≠ some wr.heap.size := fun e => by have := (OwV.lt ho _ e).2; omega
            have hbx0 := hg.size
            have hbxl := Blk.lt kbw
            have hbx1 : w0.heap.size ≤ wr.heap.size := by omega
            clear hal hS ho hg kg kcg kbw krw
            generalize wr.alloc (.cells #[.int .i64 ((n : Int) + 1), .string ⟨#[]⟩, .string ⟨#[]⟩, .string ⟨#[]⟩, .int .i64 0, .int .i64 0] 67) = y7 at *
            generalize wr.heap.size = bx at *
            have hgx : g ≠ bx := by omega
            have hbx : bc ≠ bx := by omega
            have hrx : W.heap.size ≠ bx := by omega
            go_at_call 74
            refine (rtxtS w0 g M _ y7 hS0).mono ?_
            rintro e p1 ⟨x1, he, hx1, hSu, hp, hq⟩
            obtain rfl : e = .returned (.string x1) := he
            have ku := heap_grown hq (Ne.symm hgx) kv0
            have kv1 : (p1.setCell ⟨bx, 1, none⟩ (.string x1)).heap[bx]? = some (.cells #[.int .i64 ((n : Int) + 1), .string x1, .string ⟨#[]⟩, .string ⟨#[]⟩, .int .i64 0, .int .i64 0] 67 (0, 0)) := heap_set_near _ _ _ _ _ _ ku
            have kbx1 : (p1.setCell ⟨bx, 1, none⟩ (.string x1)).heap[bc]? = _ := (heap_set_far _ _ _ _ _ hbx).trans (heap_grown hq hn1.symm kbx0)
            have krx1 : (p1.setCell ⟨bx, 1, none⟩ (.string x1)).heap[W.heap.size]? = _ := (heap_set_far _ _ _ _ _ hrx).trans (heap_grown hq hn3.symm krx0)
            have hS1 := hSu.set (i := 1) hgx hbx1 (.string x1)
            have ho1 := OwV.st (i := 1) (u := .string x1) (OwV.gr ho0 hq HRB.out.2.2.1) hAb
            have hg1 := grown_setN (i := 1) (hg0.trans hq) hbx0 (.string x1)
            have kc := Blk.cell ku
            have kf := Blk.frozen ku
            have hsz1 := hq.size
            have HPq1 := Lib.hid hp
            clear hS0 ho0 hg0 kv0 kbx0 krx0 hq hSu hp ku
            go_wp2_with fail
            clear kc kf
            generalize (p1.setCell ⟨bx, 1, none⟩ (.string x1)) = z1 at *
            go_at_call 74
            refine (rtxtS w0 g M _ z1 hS1).mono ?_
            rintro e p2 ⟨x2, he, hx2, hSu, hp, hq⟩
            obtain rfl : e = .returned (.string x2) := he
            have ku := heap_grown hq (Ne.symm hgx) kv1
            have kv2 : (p2.setCell ⟨bx, 2, none⟩ (.string x2)).heap[bx]? = some (.cells #[.int .i64 ((n : Int) + 1), .string x1, .string x2, .string ⟨#[]⟩, .int .i64 0, .int .i64 0] 67 (0, 0)) := heap_set_near _ _ _ _ _ _ ku
            have kbx2 : (p2.setCell ⟨bx, 2, none⟩ (.string x2)).heap[bc]? = _ := (heap_set_far _ _ _ _ _ hbx).trans (heap_grown hq hn1.symm kbx1)
            have krx2 : (p2.setCell ⟨bx, 2, none⟩ (.string x2)).heap[W.heap.size]? = _ := (heap_set_far _ _ _ _ _ hrx).trans (heap_grown hq hn3.symm krx1)
            have hS2 := hSu.set (i := 2) hgx hbx1 (.string x2)
            have ho2 := OwV.st (i := 2) (u := .string x2) (OwV.gr ho1 hq HRB.out.2.2.1) hAb
            have hg2 := grown_setN (i := 2) (hg1.trans hq) hbx0 (.string x2)
            have kc := Blk.cell ku
            have kf := Blk.frozen ku
            have hsz2 := hq.size
            have HPq2 := Lib.hid hp
            clear hS1 ho1 hg1 kv1 kbx1 krx1 hq hSu hp ku
            go_wp2_with fail
            clear kc kf
            generalize (p2.setCell ⟨bx, 2, none⟩ (.string x2)) = z2 at *
            go_at_call 74
            refine (rtxtS w0 g M _ z2 hS2).mono ?_
            rintro e p3 ⟨x3, he, hx3, hSu, hp, hq⟩
            obtain rfl : e = .returned (.string x3) := he
            have ku := heap_grown hq (Ne.symm hgx) kv2
            have kv3 : (p3.setCell ⟨bx, 3, none⟩ (.string x3)).heap[bx]? = some (.cells #[.int .i64 ((n : Int) + 1), .string x1, .string x2, .string x3, .int .i64 0, .int .i64 0] 67 (0, 0)) := heap_set_near _ _ _ _ _ _ ku
            have kbx3 : (p3.setCell ⟨bx, 3, none⟩ (.string x3)).heap[bc]? = _ := (heap_set_far _ _ _ _ _ hbx).trans (heap_grown hq hn1.symm kbx2)
            have krx3 : (p3.setCell ⟨bx, 3, none⟩ (.string x3)).heap[W.heap.size]? = _ := (heap_set_far _ _ _ _ _ hrx).trans (heap_grown hq hn3.symm krx2)
            have hS3 := hSu.set (i := 3) hgx hbx1 (.string x3)
            have ho3 := OwV.st (i := 3) (u := .string x3) (OwV.gr ho2 hq HRB.out.2.2.1) hAb
            have hg3 := grown_setN (i := 3) (hg2.trans hq) hbx0 (.string x3)
            have kc := Blk.cell ku
            have kf := Blk.frozen ku
            have hsz3 := hq.size
            have HPq3 := Lib.hid hp
            clear hS2 ho2 hg2 kv2 kbx2 krx2 hq hSu hp ku
            go_wp2_with fail
            clear kc kf
            generalize (p3.setCell ⟨bx, 3, none⟩ (.string x3)) = z3 at *
            go_at_call 59
            refine (rnumS w0 g M _ z3 hS3).mono ?_
            rintro e p4 ⟨x4, he, hx4, hSu, hp, hq⟩
            obtain rfl : e = .returned (.int .i64 (x4 : Int)) := he
            have ku := heap_grown hq (Ne.symm hgx) kv3
            have kv4 : (p4.setCell ⟨bx, 4, none⟩ (.int .i64 (x4 : Int))).heap[bx]? = some (.cells #[.int .i64 ((n : Int) + 1), .string x1, .string x2, .string x3, .int .i64 (x4 : Int), .int .i64 0] 67 (0, 0)) := heap_set_near _ _ _ _ _ _ ku
            have kbx4 : (p4.setCell ⟨bx, 4, none⟩ (.int .i64 (x4 : Int))).heap[bc]? = _ := (heap_set_far _ _ _ _ _ hbx).trans (heap_grown hq hn1.symm kbx3)
            have krx4 : (p4.setCell ⟨bx, 4, none⟩ (.int .i64 (x4 : Int))).heap[W.heap.size]? = _ := (heap_set_far _ _ _ _ _ hrx).trans (heap_grown hq hn3.symm krx3)
            have hS4 := hSu.set (i := 4) hgx hbx1 (.int .i64 (x4 : Int))
            have ho4 := OwV.st (i := 4) (u := .int .i64 (x4 : Int)) (OwV.gr ho3 hq HRB.out.2.2.1) hAb
            have hg4 := grown_setN (i := 4) (hg3.trans hq) hbx0 (.int .i64 (x4 : Int))
            have kc := Blk.cell ku
            have kf := Blk.frozen ku
            have hsz4 := hq.size
            have HPq4 := Lib.hid hp
            clear hS3 ho3 hg3 kv3 kbx3 krx3 hq hSu hp ku
            go_upto_region 24 with fail
            clear kc kf
            generalize (p4.setCell ⟨bx, 4, none⟩ (.int .i64 (x4 : Int))) = z4 at *
            have kcy := Blk.cell kv4
            have kcb := Blk.cell kbx4
            have hyz : bc + 1 ≤ z4.heap.size := by have := Blk.lt kbx4; omega
            have hl4 : Below z4.heap.size z4 (z4.alloc (.cells #[.int .i64 ((n : Int) + 1), .string x1, .string x2, .string x3, .int .i64 (x4 : Int), .int .i64 0] 67)) := (Below.refl _ _).alloc (Nat.le_refl _) _
            have hol := ho4.call RV.stay hl4
            have kb5 := heap_call hl4 kbx4
            have kr5 := heap_call hl4 krx4
            have HRL := Lib.hid (fun (w : World) => rv_lit (w := w) ⟨(n : Int) + 1, x1, x2, x3, (x4 : Int), 0⟩)
            go_wp2_with (at_builtin; go_must (refine wpList_append_r _ rfl (.tmp 113) (.tmp 115) 29 rfl 6 72 (bc + 1) 67 i0 _ RV.stay (by decide) Tryd.underlying29 hi0 hz0 hz1 hz2 rfl (by omega) A n c L rfl hol (some ⟨z4.heap.size, 0, none⟩) 1 1 rfl [⟨(n : Int) + 1, x1, x2, x3, (x4 : Int), 0⟩] _ (Reads.litAt (cs := #[.int .i64 ((n : Int) + 1), .string x1, .string x2, .string x3, .int .i64 (x4 : Int), .int .i64 0]) rfl rfl) (HRL.out _) rfl ?_ ?_ ?_ ?_ ?_; (focus (simp [Value.oneCell'])); (focus (unfold maxLen; omega)); (focus omega); (focus (rw [size_alloc_]; omega)); intro A5 c5 w5 ho5 hg5; have kb6 := (hg5.b.block bc (Nat.lt_succ_self _)).trans kb5; have kr6 := (hg5.b.block W.heap.size HRB.out.2.2.2.2).trans kr5; have kc6 := Blk.cell kb6; have kf6 := Blk.frozen kb6))
            have hw4 : Hid (Lit.wf (.int .i64 ((n : Int) + 1)) = true) := Lib.hid (WalkArith.wf_i64 (by omega))
            have hw2 : Hid (Lit.wf (.int .i64 (x4 : Int)) = true) := Lib.hid (WalkArith.wf_i64 (by omega))
            have HWF2 : Hid (∀ r ∈ L ++ [⟨(n : Int) + 1, x1, x2, x3, (x4 : Int), 0⟩], RvWf r) := Lib.hid (fun r hr => by
              rcases List.mem_append.1 hr with h | h
              · exact HWF.out r h
              · simp only [List.mem_singleton] at h
                subst h
                exact ⟨hw4.out, Nat.le_trans hx1 HM.out, Nat.le_trans hx2 HM.out, Nat.le_trans hx3 HM.out, hw2.out, hw0.out⟩)
            have hne5 : A5.map (·.block) ≠ some bc := fun hh => by have := (OwV.lt ho5 _ hh).1; omega
            have HPN : Hid ((v5 ≤ 40 ∧ (nx (nx (nx s pInt) pTxt) pTtl).bind pHst = ((((((((((((some l).bind pTxt).map (·.2)).bind pTxt).map (·.2)).bind pTxt).map (·.2)).bind pNum).map (·.2)) : Option (List UInt8))).bind (pRs (n + 1) (v5 - (n + 1)))).map fun b => ((L ++ [⟨(n : Int) + 1, x1, x2, x3, (x4 : Int), 0⟩]) ++ b.1, b.2)) ∨ (40 < v5 ∧ (nx (nx (nx s pInt) pTxt) pTtl).bind pHst = none)) := Lib.hid (by
              rcases HP.out with ⟨q1, q2⟩ | q1
              · exact .inl ⟨q1, by rw [q2, show v5 - n = (v5 - (n + 1)) + 1 by omega]; exact pRs_next (pRv_states n HPq1.out HPq2.out HPq3.out HPq4.out) (pRv_value n HPq1.out HPq2.out HPq3.out HPq4.out)⟩
              · exact .inr q1)
            have HGG := Lib.hid (grown_own (hg4.trans (World.grownBy_alloc z4 (.cells #[.int .i64 ((n : Int) + 1), .string x1, .string x2, .string x3, .int .i64 (x4 : Int), .int .i64 0] 67) (some g))) (hg5.b.mono HRB.out.2.1))
            have HSS := Lib.hid ((hS4.call hl4).own hg5.b HRB.out.2.2.1 HRB.out.1)
            go_roundw
            case rel => exact ⟨n + 1, A5, n + 1, c5, _, _, by omega, by omega, by go_num, heap_set_near _ _ _ _ _ _ kb6, (heap_set_far _ _ _ _ _ hn5.symm).trans kr6, OwV.st ho5 hne5, rfl, HWF2, HSS.out.set hn1 hbs.1 _, grown_setN HGG.out hbs.2.2 _, HPN⟩
            case measure => simp [intOf]; omega
          · have z2 : (n : Int) < (v5 : Int) := by omega
            have z3 : ¬ (n : Int) < 41 := by omega
            have HE := Lib.hid (hist_fin (u := xU) (t := xT) HP1.out HPU.out HPT.out (hist_end HP.out hi HLL.out.symm hi41 (.inr (.inr (by omega)))))
            have hne : A.map (·.block) ≠ some W.heap.size := fun hh => by have := (OwV.lt ho _ hh).1; have := HRB.out.2.2.2.2; omega
            have HOF := Lib.hid (OwV.st (i := 9) (u := .slice A n c) (OwV.st (i := 8) (u := .int .i64 0) (OwV.st (i := 7) (u := .string ⟨#[]⟩) (OwV.st (i := 6) (u := .string ⟨#[]⟩) (OwV.st (i := 5) (u := .int .i64 0) (OwV.st (i := 4) (u := .string xT.2) (OwV.st (i := 3) (u := .int .i64 xT.1) (OwV.st (i := 2) (u := .string ⟨#[]⟩) (OwV.st (i := 1) (u := .string xU) (OwV.st (i := 0) (u := .int .i64 5) ho hne) hne) hne) hne) hne) hne) hne) hne) hne) hne)
            have HSE := Lib.hid hS
            have HGE := Lib.hid hg
            clear hS hg ho hne HP
            have kcb := Blk.cell kbw
            have kfr := Blk.frozen krw
            have kcr0 := Blk.cell krw
            have kz0 : (wr.setCell ⟨W.heap.size, 0, none⟩ (.int .i64 5)).heap[W.heap.size]? = some (.cells #[.int .i64 5, .string ⟨#[]⟩, .string ⟨#[]⟩, .int .i64 0, .string ⟨#[]⟩, .int .i64 0, .string ⟨#[]⟩, .string ⟨#[]⟩, .int .i64 0, .slice none 0 0] 31 (0, 0)) := heap_set_near _ _ _ _ _ _ krw
            have kz1 : ((wr.setCell ⟨W.heap.size, 0, none⟩ (.int .i64 5)).setCell ⟨W.heap.size, 1, none⟩ (.string xU)).heap[W.heap.size]? = some (.cells #[.int .i64 5, .string xU, .string ⟨#[]⟩, .int .i64 0, .string ⟨#[]⟩, .int .i64 0, .string ⟨#[]⟩, .string ⟨#[]⟩, .int .i64 0, .slice none 0 0] 31 (0, 0)) := heap_set_near _ _ _ _ _ _ kz0
            have kz2 : (((wr.setCell ⟨W.heap.size, 0, none⟩ (.int .i64 5)).setCell ⟨W.heap.size, 1, none⟩ (.string xU)).setCell ⟨W.heap.size, 2, none⟩ (.string ⟨#[]⟩)).heap[W.heap.size]? = some (.cells #[.int .i64 5, .string xU, .string ⟨#[]⟩, .int .i64 0, .string ⟨#[]⟩, .int .i64 0, .string ⟨#[]⟩, .string ⟨#[]⟩, .int .i64 0, .slice none 0 0] 31 (0, 0)) := heap_set_near _ _ _ _ _ _ kz1
            have kz3 : ((((wr.setCell ⟨W.heap.size, 0, none⟩ (.int .i64 5)).setCell ⟨W.heap.size, 1, none⟩ (.string xU)).setCell ⟨W.heap.size, 2, none⟩ (.string ⟨#[]⟩)).setCell ⟨W.heap.size, 3, none⟩ (.int .i64 xT.1)).heap[W.heap.size]? = some (.cells #[.int .i64 5, .string xU, .string ⟨#[]⟩, .int .i64 xT.1, .string ⟨#[]⟩, .int .i64 0, .string ⟨#[]⟩, .string ⟨#[]⟩, .int .i64 0, .slice none 0 0] 31 (0, 0)) := heap_set_near _ _ _ _ _ _ kz2
            have kz4 : (((((wr.setCell ⟨W.heap.size, 0, none⟩ (.int .i64 5)).setCell ⟨W.heap.size, 1, none⟩ (.string xU)).setCell ⟨W.heap.size, 2, none⟩ (.string ⟨#[]⟩)).setCell ⟨W.heap.size, 3, none⟩ (.int .i64 xT.1)).setCell ⟨W.heap.size, 4, none⟩ (.string xT.2)).heap[W.heap.size]? = some (.cells #[.int .i64 5, .string xU, .string ⟨#[]⟩, .int .i64 xT.1, .string xT.2, .int .i64 0, .string ⟨#[]⟩, .string ⟨#[]⟩, .int .i64 0, .slice none 0 0] 31 (0, 0)) := heap_set_near _ _ _ _ _ _ kz3
            have kz5 : ((((((wr.setCell ⟨W.heap.size, 0, none⟩ (.int .i64 5)).setCell ⟨W.heap.size, 1, none⟩ (.string xU)).setCell ⟨W.heap.size, 2, none⟩ (.string ⟨#[]⟩)).setCell ⟨W.heap.size, 3, none⟩ (.int .i64 xT.1)).setCell ⟨W.heap.size, 4, none⟩ (.string xT.2)).setCell ⟨W.heap.size, 5, none⟩ (.int .i64 0)).heap[W.heap.size]? = some (.cells #[.int .i64 5, .string xU, .string ⟨#[]⟩, .int .i64 xT.1, .string xT.2, .int .i64 0, .string ⟨#[]⟩, .string ⟨#[]⟩, .int .i64 0, .slice none 0 0] 31 (0, 0)) := heap_set_near _ _ _ _ _ _ kz4
            have kz6 : (((((((wr.setCell ⟨W.heap.size, 0, none⟩ (.int .i64 5)).setCell ⟨W.heap.size, 1, none⟩ (.string xU)).setCell ⟨W.heap.size, 2, none⟩ (.string ⟨#[]⟩)).setCell ⟨W.heap.size, 3, none⟩ (.int .i64 xT.1)).setCell ⟨W.heap.size, 4, none⟩ (.string xT.2)).setCell ⟨W.heap.size, 5, none⟩ (.int .i64 0)).setCell ⟨W.heap.size, 6, none⟩ (.string ⟨#[]⟩)).heap[W.heap.size]? = some (.cells #[.int .i64 5, .string xU, .string ⟨#[]⟩, .int .i64 xT.1, .string xT.2, .int .i64 0, .string ⟨#[]⟩, .string ⟨#[]⟩, .int .i64 0, .slice none 0 0] 31 (0, 0)) := heap_set_near _ _ _ _ _ _ kz5
            have kz7 : ((((((((wr.setCell ⟨W.heap.size, 0, none⟩ (.int .i64 5)).setCell ⟨W.heap.size, 1, none⟩ (.string xU)).setCell ⟨W.heap.size, 2, none⟩ (.string ⟨#[]⟩)).setCell ⟨W.heap.size, 3, none⟩ (.int .i64 xT.1)).setCell ⟨W.heap.size, 4, none⟩ (.string xT.2)).setCell ⟨W.heap.size, 5, none⟩ (.int .i64 0)).setCell ⟨W.heap.size, 6, none⟩ (.string ⟨#[]⟩)).setCell ⟨W.heap.size, 7, none⟩ (.string ⟨#[]⟩)).heap[W.heap.size]? = some (.cells #[.int .i64 5, .string xU, .string ⟨#[]⟩, .int .i64 xT.1, .string xT.2, .int .i64 0, .string ⟨#[]⟩, .string ⟨#[]⟩, .int .i64 0, .slice none 0 0] 31 (0, 0)) := heap_set_near _ _ _ _ _ _ kz6
            have kz8 : (((((((((wr.setCell ⟨W.heap.size, 0, none⟩ (.int .i64 5)).setCell ⟨W.heap.size, 1, none⟩ (.string xU)).setCell ⟨W.heap.size, 2, none⟩ (.string ⟨#[]⟩)).setCell ⟨W.heap.size, 3, none⟩ (.int .i64 xT.1)).setCell ⟨W.heap.size, 4, none⟩ (.string xT.2)).setCell ⟨W.heap.size, 5, none⟩ (.int .i64 0)).setCell ⟨W.heap.size, 6, none⟩ (.string ⟨#[]⟩)).setCell ⟨W.heap.size, 7, none⟩ (.string ⟨#[]⟩)).setCell ⟨W.heap.size, 8, none⟩ (.int .i64 0)).heap[W.heap.size]? = some (.cells #[.int .i64 5, .string xU, .string ⟨#[]⟩, .int .i64 xT.1, .string xT.2, .int .i64 0, .string ⟨#[]⟩, .string ⟨#[]⟩, .int .i64 0, .slice none 0 0] 31 (0, 0)) := heap_set_near _ _ _ _ _ _ kz7
            have kz9 : ((((((((((wr.setCell ⟨W.heap.size, 0, none⟩ (.int .i64 5)).setCell ⟨W.heap.size, 1, none⟩ (.string xU)).setCell ⟨W.heap.size, 2, none⟩ (.string ⟨#[]⟩)).setCell ⟨W.heap.size, 3, none⟩ (.int .i64 xT.1)).setCell ⟨W.heap.size, 4, none⟩ (.string xT.2)).setCell ⟨W.heap.size, 5, none⟩ (.int .i64 0)).setCell ⟨W.heap.size, 6, none⟩ (.string ⟨#[]⟩)).setCell ⟨W.heap.size, 7, none⟩ (.string ⟨#[]⟩)).setCell ⟨W.heap.size, 8, none⟩ (.int .i64 0)).setCell ⟨W.heap.size, 9, none⟩ (.slice A n c)).heap[W.heap.size]? = some (.cells #[.int .i64 5, .string xU, .string ⟨#[]⟩, .int .i64 xT.1, .string xT.2, .int .i64 0, .string ⟨#[]⟩, .string ⟨#[]⟩, .int .i64 0, .slice A n c] 31 (0, 0)) := heap_set_near _ _ _ _ _ _ kz8
            have kcz := Blk.cell kz9
            have HSF := Lib.hid ((((((((((HSE.out.set (i := 0) hn3 hbs.2.1 (.int .i64 5)).set (i := 1) hn3 hbs.2.1 (.string xU)).set (i := 2) hn3 hbs.2.1 (.string ⟨#[]⟩)).set (i := 3) hn3 hbs.2.1 (.int .i64 xT.1)).set (i := 4) hn3 hbs.2.1 (.string xT.2)).set (i := 5) hn3 hbs.2.1 (.int .i64 0)).set (i := 6) hn3 hbs.2.1 (.string ⟨#[]⟩)).set (i := 7) hn3 hbs.2.1 (.string ⟨#[]⟩)).set (i := 8) hn3 hbs.2.1 (.int .i64 0)).set (i := 9) hn3 hbs.2.1 (.slice A n c))
            have HGF := Lib.hid (grown_setN (i := 9) (grown_setN (i := 8) (grown_setN (i := 7) (grown_setN (i := 6) (grown_setN (i := 5) (grown_setN (i := 4) (grown_setN (i := 3) (grown_setN (i := 2) (grown_setN (i := 1) (grown_setN (i := 0) HGE.out (Nat.le_refl _) (.int .i64 5)) (Nat.le_refl _) (.string xU)) (Nat.le_refl _) (.string ⟨#[]⟩)) (Nat.le_refl _) (.int .i64 xT.1)) (Nat.le_refl _) (.string xT.2)) (Nat.le_refl _) (.int .i64 0)) (Nat.le_refl _) (.string ⟨#[]⟩)) (Nat.le_refl _) (.string ⟨#[]⟩)) (Nat.le_refl _) (.int .i64 0)) (Nat.le_refl _) (.slice A n c))
            clear kz0 kz1 kz2 kz3 kz4 kz5 kz6 kz7 kz8 kz9
            go_wp2_with fail
            refine bodyPost_ret (v := .agg #[.int .i64 5, .string xU, .string ⟨#[]⟩, .int .i64 xT.1, .string xT.2, .int .i64 0, .string ⟨#[]⟩, .string ⟨#[]⟩, .int .i64 0, .slice A n c]) ?_ rfl ⟨⟨5, xU, ⟨#[]⟩, xT.1, xT.2, 0, ⟨#[]⟩, ⟨#[]⟩, 0, L⟩, A, n, c, (some l), rfl, HOF.out.rd, OwV.ty HOF.out, ⟨hw1.out, Nat.le_trans hxU HM.out, Nat.zero_le _, hwfT.out, Nat.le_trans hxT.2.2 HM.out, hw0.out, Nat.zero_le _, Nat.zero_le _, hw0.out, HWF.out⟩, HSF.out, HE.out, HGF.out⟩
            simp [results, Tryd.results60, go_sem, kcz]
        · have z2 : ¬ (n : Int) < (v5 : Int) := by omega
          have HE := Lib.hid (hist_fin (u := xU) (t := xT) HP1.out HPU.out HPT.out (hist_end HP.out hi HLL.out.symm hi41 (.inr (.inl (by omega)))))
          have hne : A.map (·.block) ≠ some W.heap.size := fun hh => by have := (OwV.lt ho _ hh).1; have := HRB.out.2.2.2.2; omega
          have HOF := Lib.hid (OwV.st (i := 9) (u := .slice A n c) (OwV.st (i := 8) (u := .int .i64 0) (OwV.st (i := 7) (u := .string ⟨#[]⟩) (OwV.st (i := 6) (u := .string ⟨#[]⟩) (OwV.st (i := 5) (u := .int .i64 0) (OwV.st (i := 4) (u := .string xT.2) (OwV.st (i := 3) (u := .int .i64 xT.1) (OwV.st (i := 2) (u := .string ⟨#[]⟩) (OwV.st (i := 1) (u := .string xU) (OwV.st (i := 0) (u := .int .i64 5) ho hne) hne) hne) hne) hne) hne) hne) hne) hne) hne)
          have HSE := Lib.hid hS
          have HGE := Lib.hid hg
          clear hS hg ho hne HP
          have kcb := Blk.cell kbw
          have kfr := Blk.frozen krw
          have kcr0 := Blk.cell krw
          have kz0 : (wr.setCell ⟨W.heap.size, 0, none⟩ (.int .i64 5)).heap[W.heap.size]? = some (.cells #[.int .i64 5, .string ⟨#[]⟩, .string ⟨#[]⟩, .int .i64 0, .string ⟨#[]⟩, .int .i64 0, .string ⟨#[]⟩, .string ⟨#[]⟩, .int .i64 0, .slice none 0 0] 31 (0, 0)) := heap_set_near _ _ _ _ _ _ krw
          have kz1 : ((wr.setCell ⟨W.heap.size, 0, none⟩ (.int .i64 5)).setCell ⟨W.heap.size, 1, none⟩ (.string xU)).heap[W.heap.size]? = some (.cells #[.int .i64 5, .string xU, .string ⟨#[]⟩, .int .i64 0, .string ⟨#[]⟩, .int .i64 0, .string ⟨#[]⟩, .string ⟨#[]⟩, .int .i64 0, .slice none 0 0] 31 (0, 0)) := heap_set_near _ _ _ _ _ _ kz0
          have kz2 : (((wr.setCell ⟨W.heap.size, 0, none⟩ (.int .i64 5)).setCell ⟨W.heap.size, 1, none⟩ (.string xU)).setCell ⟨W.heap.size, 2, none⟩ (.string ⟨#[]⟩)).heap[W.heap.size]? = some (.cells #[.int .i64 5, .string xU, .string ⟨#[]⟩, .int .i64 0, .string ⟨#[]⟩, .int .i64 0, .string ⟨#[]⟩, .string ⟨#[]⟩, .int .i64 0, .slice none 0 0] 31 (0, 0)) := heap_set_near _ _ _ _ _ _ kz1
          have kz3 : ((((wr.setCell ⟨W.heap.size, 0, none⟩ (.int .i64 5)).setCell ⟨W.heap.size, 1, none⟩ (.string xU)).setCell ⟨W.heap.size, 2, none⟩ (.string ⟨#[]⟩)).setCell ⟨W.heap.size, 3, none⟩ (.int .i64 xT.1)).heap[W.heap.size]? = some (.cells #[.int .i64 5, .string xU, .string ⟨#[]⟩, .int .i64 xT.1, .string ⟨#[]⟩, .int .i64 0, .string ⟨#[]⟩, .string ⟨#[]⟩, .int .i64 0, .slice none 0 0] 31 (0, 0)) := heap_set_near _ _ _ _ _ _ kz2
          have kz4 : (((((wr.setCell ⟨W.heap.size, 0, none⟩ (.int .i64 5)).setCell ⟨W.heap.size, 1, none⟩ (.string xU)).setCell ⟨W.heap.size, 2, none⟩ (.string ⟨#[]⟩)).setCell ⟨W.heap.size, 3, none⟩ (.int .i64 xT.1)).setCell ⟨W.heap.size, 4, none⟩ (.string xT.2)).heap[W.heap.size]? = some (.cells #[.int .i64 5, .string xU, .string ⟨#[]⟩, .int .i64 xT.1, .string xT.2, .int .i64 0, .string ⟨#[]⟩, .string ⟨#[]⟩, .int .i64 0, .slice none 0 0] 31 (0, 0)) := heap_set_near _ _ _ _ _ _ kz3
          have kz5 : ((((((wr.setCell ⟨W.heap.size, 0, none⟩ (.int .i64 5)).setCell ⟨W.heap.size, 1, none⟩ (.string xU)).setCell ⟨W.heap.size, 2, none⟩ (.string ⟨#[]⟩)).setCell ⟨W.heap.size, 3, none⟩ (.int .i64 xT.1)).setCell ⟨W.heap.size, 4, none⟩ (.string xT.2)).setCell ⟨W.heap.size, 5, none⟩ (.int .i64 0)).heap[W.heap.size]? = some (.cells #[.int .i64 5, .string xU, .string ⟨#[]⟩, .int .i64 xT.1, .string xT.2, .int .i64 0, .string ⟨#[]⟩, .string ⟨#[]⟩, .int .i64 0, .slice none 0 0] 31 (0, 0)) := heap_set_near _ _ _ _ _ _ kz4
          have kz6 : (((((((wr.setCell ⟨W.heap.size, 0, none⟩ (.int .i64 5)).setCell ⟨W.heap.size, 1, none⟩ (.string xU)).setCell ⟨W.heap.size, 2, none⟩ (.string ⟨#[]⟩)).setCell ⟨W.heap.size, 3, none⟩ (.int .i64 xT.1)).setCell ⟨W.heap.size, 4, none⟩ (.string xT.2)).setCell ⟨W.heap.size, 5, none⟩ (.int .i64 0)).setCell ⟨W.heap.size, 6, none⟩ (.string ⟨#[]⟩)).heap[W.heap.size]? = some (.cells #[.int .i64 5, .string xU, .string ⟨#[]⟩, .int .i64 xT.1, .string xT.2, .int .i64 0, .string ⟨#[]⟩, .string ⟨#[]⟩, .int .i64 0, .slice none 0 0] 31 (0, 0)) := heap_set_near _ _ _ _ _ _ kz5
          have kz7 : ((((((((wr.setCell ⟨W.heap.size, 0, none⟩ (.int .i64 5)).setCell ⟨W.heap.size, 1, none⟩ (.string xU)).setCell ⟨W.heap.size, 2, none⟩ (.string ⟨#[]⟩)).setCell ⟨W.heap.size, 3, none⟩ (.int .i64 xT.1)).setCell ⟨W.heap.size, 4, none⟩ (.string xT.2)).setCell ⟨W.heap.size, 5, none⟩ (.int .i64 0)).setCell ⟨W.heap.size, 6, none⟩ (.string ⟨#[]⟩)).setCell ⟨W.heap.size, 7, none⟩ (.string ⟨#[]⟩)).heap[W.heap.size]? = some (.cells #[.int .i64 5, .string xU, .string ⟨#[]⟩, .int .i64 xT.1, .string xT.2, .int .i64 0, .string ⟨#[]⟩, .string ⟨#[]⟩, .int .i64 0, .slice none 0 0] 31 (0, 0)) := heap_set_near _ _ _ _ _ _ kz6
          have kz8 : (((((((((wr.setCell ⟨W.heap.size, 0, none⟩ (.int .i64 5)).setCell ⟨W.heap.size, 1, none⟩ (.string xU)).setCell ⟨W.heap.size, 2, none⟩ (.string ⟨#[]⟩)).setCell ⟨W.heap.size, 3, none⟩ (.int .i64 xT.1)).setCell ⟨W.heap.size, 4, none⟩ (.string xT.2)).setCell ⟨W.heap.size, 5, none⟩ (.int .i64 0)).setCell ⟨W.heap.size, 6, none⟩ (.string ⟨#[]⟩)).setCell ⟨W.heap.size, 7, none⟩ (.string ⟨#[]⟩)).setCell ⟨W.heap.size, 8, none⟩ (.int .i64 0)).heap[W.heap.size]? = some (.cells #[.int .i64 5, .string xU, .string ⟨#[]⟩, .int .i64 xT.1, .string xT.2, .int .i64 0, .string ⟨#[]⟩, .string ⟨#[]⟩, .int .i64 0, .slice none 0 0] 31 (0, 0)) := heap_set_near _ _ _ _ _ _ kz7
          have kz9 : ((((((((((wr.setCell ⟨W.heap.size, 0, none⟩ (.int .i64 5)).setCell ⟨W.heap.size, 1, none⟩ (.string xU)).setCell ⟨W.heap.size, 2, none⟩ (.string ⟨#[]⟩)).setCell ⟨W.heap.size, 3, none⟩ (.int .i64 xT.1)).setCell ⟨W.heap.size, 4, none⟩ (.string xT.2)).setCell ⟨W.heap.size, 5, none⟩ (.int .i64 0)).setCell ⟨W.heap.size, 6, none⟩ (.string ⟨#[]⟩)).setCell ⟨W.heap.size, 7, none⟩ (.string ⟨#[]⟩)).setCell ⟨W.heap.size, 8, none⟩ (.int .i64 0)).setCell ⟨W.heap.size, 9, none⟩ (.slice A n c)).heap[W.heap.size]? = some (.cells #[.int .i64 5, .string xU, .string ⟨#[]⟩, .int .i64 xT.1, .string xT.2, .int .i64 0, .string ⟨#[]⟩, .string ⟨#[]⟩, .int .i64 0, .slice A n c] 31 (0, 0)) := heap_set_near _ _ _ _ _ _ kz8
          have kcz := Blk.cell kz9
          have HSF := Lib.hid ((((((((((HSE.out.set (i := 0) hn3 hbs.2.1 (.int .i64 5)).set (i := 1) hn3 hbs.2.1 (.string xU)).set (i := 2) hn3 hbs.2.1 (.string ⟨#[]⟩)).set (i := 3) hn3 hbs.2.1 (.int .i64 xT.1)).set (i := 4) hn3 hbs.2.1 (.string xT.2)).set (i := 5) hn3 hbs.2.1 (.int .i64 0)).set (i := 6) hn3 hbs.2.1 (.string ⟨#[]⟩)).set (i := 7) hn3 hbs.2.1 (.string ⟨#[]⟩)).set (i := 8) hn3 hbs.2.1 (.int .i64 0)).set (i := 9) hn3 hbs.2.1 (.slice A n c))
          have HGF := Lib.hid (grown_setN (i := 9) (grown_setN (i := 8) (grown_setN (i := 7) (grown_setN (i := 6) (grown_setN (i := 5) (grown_setN (i := 4) (grown_setN (i := 3) (grown_setN (i := 2) (grown_setN (i := 1) (grown_setN (i := 0) HGE.out (Nat.le_refl _) (.int .i64 5)) (Nat.le_refl _) (.string xU)) (Nat.le_refl _) (.string ⟨#[]⟩)) (Nat.le_refl _) (.int .i64 xT.1)) (Nat.le_refl _) (.string xT.2)) (Nat.le_refl _) (.int .i64 0)) (Nat.le_refl _) (.string ⟨#[]⟩)) (Nat.le_refl _) (.string ⟨#[]⟩)) (Nat.le_refl _) (.int .i64 0)) (Nat.le_refl _) (.slice A n c))
          clear kz0 kz1 kz2 kz3 kz4 kz5 kz6 kz7 kz8 kz9
          go_wp2_with fail
          refine bodyPost_ret (v := .agg #[.int .i64 5, .string xU, .string ⟨#[]⟩, .int .i64 xT.1, .string xT.2, .int .i64 0, .string ⟨#[]⟩, .string ⟨#[]⟩, .int .i64 0, .slice A n c]) ?_ rfl ⟨⟨5, xU, ⟨#[]⟩, xT.1, xT.2, 0, ⟨#[]⟩, ⟨#[]⟩, 0, L⟩, A, n, c, (some l), rfl, HOF.out.rd, OwV.ty HOF.out, ⟨hw1.out, Nat.le_trans hxU HM.out, Nat.zero_le _, hwfT.out, Nat.le_trans hxT.2.2 HM.out, hw0.out, Nat.zero_le _, Nat.zero_le _, hw0.out, HWF.out⟩, HSF.out, HE.out, HGF.out⟩
          simp [results, Tryd.results60, go_sem, kcz]
  · subst hkd
    clear HKK
    have kq3 := Blk.cell kb1
    go_wp2_with fail
    go_at_call 59
    refine (rnumS w0 g M _ y3 hS2).mono ?_
    rintro e u4 ⟨xK, he, hxK, hSu, hp, hq⟩
    obtain rfl : e = .returned (.int .i64 (xK : Int)) := he
    have HPK := Lib.hid (pInt_ok hp)
    rw [nx_def, ← pInt_nx] at hSu
    have ku := heap_grown hq hn1.symm kb1
    have kru := heap_grown hq hn3.symm kr2
    clear kq3
    have hcu := Blk.cell ku
    have hfu := Blk.frozen ku
    have kw8 : (u4.setCell ⟨bc, 8, none⟩ (.int .i64 (xK : Int))).heap[bc]? = some (.cells #[.int .i64 6, .string ⟨#[]⟩, .string ⟨#[]⟩, .int .i64 0, .string ⟨#[]⟩, .int .i64 0, .string ⟨#[]⟩, .string ⟨#[]⟩, .int .i64 (xK : Int), .slice none 0 0] 31 (0, 0)) := heap_set_near _ _ _ _ _ _ ku
    have kbK : (u4.setCell ⟨bc, 8, none⟩ (.int .i64 (xK : Int))).heap[bc]? = _ := kw8
    have krK : (u4.setCell ⟨bc, 8, none⟩ (.int .i64 (xK : Int))).heap[W.heap.size]? = _ := ((heap_set_far _ _ _ _ _ hn5.symm).trans kru)
    have hSK := (hSu.set (i := 8) hn1 hbs.1 (.int .i64 (xK : Int)))
    have hGK := (grown_setN (i := 8) (hg2.trans hq) hbs.2.2 (.int .i64 (xK : Int)))
    clear kb1 kr2 hS2 hg2 ku kru hq hSu hp kw8
    go_upto_region 14 with fail
    clear hcu hfu
    generalize (u4.setCell ⟨bc, 8, none⟩ (.int .i64 (xK : Int))) = y4 at *
    have HC : Hid (((nx (nx s pInt) pInt) = (s.bind pCg).map (·.2) ∧ ∀ q, s.bind pCg = some q → (⟨6, ⟨#[]⟩, ⟨#[]⟩, 0, ⟨#[]⟩, 0, ⟨#[]⟩, ⟨#[]⟩, (xK : Int), []⟩ : Cg) = q.1) ∨ (s.bind pCg = none ∧ cv (⟨6, ⟨#[]⟩, ⟨#[]⟩, 0, ⟨#[]⟩, 0, ⟨#[]⟩, ⟨#[]⟩, (xK : Int), []⟩ : Cg) ≠ 0)) := Lib.hid (by
      have f1 : fU (6 : Int) = false := rfl
      have f2 : fN (6 : Int) = false := rfl
      have f3 : fT (6 : Int) = false := rfl
      have f4 : fO (6 : Int) = false := rfl
      have f5 : fK (6 : Int) = true := rfl
      have f6 : fH (6 : Int) = false := rfl
      have hV : fV (6 : Int) = true := rfl
      have hc := pCg_chain (s := s) (k := 6) (u := ⟨#[]⟩) (nt := ⟨#[]⟩) (tx := ⟨#[]⟩) (t := (0, ⟨#[]⟩)) (o := (0, ⟨#[]⟩)) (n := (xK : Int)) (hs := []) HP1.out hV (by simp only [f1, f2, f3, f4, f5, f6, nx_on, nx_off]; exact ok_off) (by simp only [f1, f2, f3, f4, f5, f6, nx_on, nx_off]; exact ok_off) (by simp only [f1, f2, f3, f4, f5, f6, nx_on, nx_off]; exact ok_off) (by simp only [f1, f2, f3, f4, f5, f6, nx_on, nx_off]; exact ok_off) (by simp only [f1, f2, f3, f4, f5, f6, nx_on, nx_off]; exact ok_off) (by simp only [f1, f2, f3, f4, f5, f6, nx_on, nx_off]; exact ok_on HPK.out) (by simp only [f1, f2, f3, f4, f5, f6, nx_on, nx_off]; exact ok_off)
      simp only [f1, f2, f3, f4, f5, f6, nx_on, nx_off] at hc
      exact chain_left hc)
    have HSE := Lib.hid hSK
    have HGE := Lib.hid hGK
    clear hSK hGK
    have kcb := Blk.cell kbK
    have kfr := Blk.frozen krK
    have kcr0 := Blk.cell krK
    have kz0 : (y4.setCell ⟨W.heap.size, 0, none⟩ (.int .i64 6)).heap[W.heap.size]? = some (.cells #[.int .i64 6, .string ⟨#[]⟩, .string ⟨#[]⟩, .int .i64 0, .string ⟨#[]⟩, .int .i64 0, .string ⟨#[]⟩, .string ⟨#[]⟩, .int .i64 0, .slice none 0 0] 31 (0, 0)) := heap_set_near _ _ _ _ _ _ krK
    have kz1 : ((y4.setCell ⟨W.heap.size, 0, none⟩ (.int .i64 6)).setCell ⟨W.heap.size, 1, none⟩ (.string ⟨#[]⟩)).heap[W.heap.size]? = some (.cells #[.int .i64 6, .string ⟨#[]⟩, .string ⟨#[]⟩, .int .i64 0, .string ⟨#[]⟩, .int .i64 0, .string ⟨#[]⟩, .string ⟨#[]⟩, .int .i64 0, .slice none 0 0] 31 (0, 0)) := heap_set_near _ _ _ _ _ _ kz0
    have kz2 : (((y4.setCell ⟨W.heap.size, 0, none⟩ (.int .i64 6)).setCell ⟨W.heap.size, 1, none⟩ (.string ⟨#[]⟩)).setCell ⟨W.heap.size, 2, none⟩ (.string ⟨#[]⟩)).heap[W.heap.size]? = some (.cells #[.int .i64 6, .string ⟨#[]⟩, .string ⟨#[]⟩, .int .i64 0, .string ⟨#[]⟩, .int .i64 0, .string ⟨#[]⟩, .string ⟨#[]⟩, .int .i64 0, .slice none 0 0] 31 (0, 0)) := heap_set_near _ _ _ _ _ _ kz1
    have kz3 : ((((y4.setCell ⟨W.heap.size, 0, none⟩ (.int .i64 6)).setCell ⟨W.heap.size, 1, none⟩ (.string ⟨#[]⟩)).setCell ⟨W.heap.size, 2, none⟩ (.string ⟨#[]⟩)).setCell ⟨W.heap.size, 3, none⟩ (.int .i64 0)).heap[W.heap.size]? = some (.cells #[.int .i64 6, .string ⟨#[]⟩, .string ⟨#[]⟩, .int .i64 0, .string ⟨#[]⟩, .int .i64 0, .string ⟨#[]⟩, .string ⟨#[]⟩, .int .i64 0, .slice none 0 0] 31 (0, 0)) := heap_set_near _ _ _ _ _ _ kz2
    have kz4 : (((((y4.setCell ⟨W.heap.size, 0, none⟩ (.int .i64 6)).setCell ⟨W.heap.size, 1, none⟩ (.string ⟨#[]⟩)).setCell ⟨W.heap.size, 2, none⟩ (.string ⟨#[]⟩)).setCell ⟨W.heap.size, 3, none⟩ (.int .i64 0)).setCell ⟨W.heap.size, 4, none⟩ (.string ⟨#[]⟩)).heap[W.heap.size]? = some (.cells #[.int .i64 6, .string ⟨#[]⟩, .string ⟨#[]⟩, .int .i64 0, .string ⟨#[]⟩, .int .i64 0, .string ⟨#[]⟩, .string ⟨#[]⟩, .int .i64 0, .slice none 0 0] 31 (0, 0)) := heap_set_near _ _ _ _ _ _ kz3
    have kz5 : ((((((y4.setCell ⟨W.heap.size, 0, none⟩ (.int .i64 6)).setCell ⟨W.heap.size, 1, none⟩ (.string ⟨#[]⟩)).setCell ⟨W.heap.size, 2, none⟩ (.string ⟨#[]⟩)).setCell ⟨W.heap.size, 3, none⟩ (.int .i64 0)).setCell ⟨W.heap.size, 4, none⟩ (.string ⟨#[]⟩)).setCell ⟨W.heap.size, 5, none⟩ (.int .i64 0)).heap[W.heap.size]? = some (.cells #[.int .i64 6, .string ⟨#[]⟩, .string ⟨#[]⟩, .int .i64 0, .string ⟨#[]⟩, .int .i64 0, .string ⟨#[]⟩, .string ⟨#[]⟩, .int .i64 0, .slice none 0 0] 31 (0, 0)) := heap_set_near _ _ _ _ _ _ kz4
    have kz6 : (((((((y4.setCell ⟨W.heap.size, 0, none⟩ (.int .i64 6)).setCell ⟨W.heap.size, 1, none⟩ (.string ⟨#[]⟩)).setCell ⟨W.heap.size, 2, none⟩ (.string ⟨#[]⟩)).setCell ⟨W.heap.size, 3, none⟩ (.int .i64 0)).setCell ⟨W.heap.size, 4, none⟩ (.string ⟨#[]⟩)).setCell ⟨W.heap.size, 5, none⟩ (.int .i64 0)).setCell ⟨W.heap.size, 6, none⟩ (.string ⟨#[]⟩)).heap[W.heap.size]? = some (.cells #[.int .i64 6, .string ⟨#[]⟩, .string ⟨#[]⟩, .int .i64 0, .string ⟨#[]⟩, .int .i64 0, .string ⟨#[]⟩, .string ⟨#[]⟩, .int .i64 0, .slice none 0 0] 31 (0, 0)) := heap_set_near _ _ _ _ _ _ kz5
    have kz7 : ((((((((y4.setCell ⟨W.heap.size, 0, none⟩ (.int .i64 6)).setCell ⟨W.heap.size, 1, none⟩ (.string ⟨#[]⟩)).setCell ⟨W.heap.size, 2, none⟩ (.string ⟨#[]⟩)).setCell ⟨W.heap.size, 3, none⟩ (.int .i64 0)).setCell ⟨W.heap.size, 4, none⟩ (.string ⟨#[]⟩)).setCell ⟨W.heap.size, 5, none⟩ (.int .i64 0)).setCell ⟨W.heap.size, 6, none⟩ (.string ⟨#[]⟩)).setCell ⟨W.heap.size, 7, none⟩ (.string ⟨#[]⟩)).heap[W.heap.size]? = some (.cells #[.int .i64 6, .string ⟨#[]⟩, .string ⟨#[]⟩, .int .i64 0, .string ⟨#[]⟩, .int .i64 0, .string ⟨#[]⟩, .string ⟨#[]⟩, .int .i64 0, .slice none 0 0] 31 (0, 0)) := heap_set_near _ _ _ _ _ _ kz6
    have kz8 : (((((((((y4.setCell ⟨W.heap.size, 0, none⟩ (.int .i64 6)).setCell ⟨W.heap.size, 1, none⟩ (.string ⟨#[]⟩)).setCell ⟨W.heap.size, 2, none⟩ (.string ⟨#[]⟩)).setCell ⟨W.heap.size, 3, none⟩ (.int .i64 0)).setCell ⟨W.heap.size, 4, none⟩ (.string ⟨#[]⟩)).setCell ⟨W.heap.size, 5, none⟩ (.int .i64 0)).setCell ⟨W.heap.size, 6, none⟩ (.string ⟨#[]⟩)).setCell ⟨W.heap.size, 7, none⟩ (.string ⟨#[]⟩)).setCell ⟨W.heap.size, 8, none⟩ (.int .i64 (xK : Int))).heap[W.heap.size]? = some (.cells #[.int .i64 6, .string ⟨#[]⟩, .string ⟨#[]⟩, .int .i64 0, .string ⟨#[]⟩, .int .i64 0, .string ⟨#[]⟩, .string ⟨#[]⟩, .int .i64 (xK : Int), .slice none 0 0] 31 (0, 0)) := heap_set_near _ _ _ _ _ _ kz7
    have kz9 : ((((((((((y4.setCell ⟨W.heap.size, 0, none⟩ (.int .i64 6)).setCell ⟨W.heap.size, 1, none⟩ (.string ⟨#[]⟩)).setCell ⟨W.heap.size, 2, none⟩ (.string ⟨#[]⟩)).setCell ⟨W.heap.size, 3, none⟩ (.int .i64 0)).setCell ⟨W.heap.size, 4, none⟩ (.string ⟨#[]⟩)).setCell ⟨W.heap.size, 5, none⟩ (.int .i64 0)).setCell ⟨W.heap.size, 6, none⟩ (.string ⟨#[]⟩)).setCell ⟨W.heap.size, 7, none⟩ (.string ⟨#[]⟩)).setCell ⟨W.heap.size, 8, none⟩ (.int .i64 (xK : Int))).setCell ⟨W.heap.size, 9, none⟩ (.slice none 0 0)).heap[W.heap.size]? = some (.cells #[.int .i64 6, .string ⟨#[]⟩, .string ⟨#[]⟩, .int .i64 0, .string ⟨#[]⟩, .int .i64 0, .string ⟨#[]⟩, .string ⟨#[]⟩, .int .i64 (xK : Int), .slice none 0 0] 31 (0, 0)) := heap_set_near _ _ _ _ _ _ kz8
    have kcz := Blk.cell kz9
    have HSF := Lib.hid ((((((((((HSE.out.set (i := 0) hn3 hbs.2.1 (.int .i64 6)).set (i := 1) hn3 hbs.2.1 (.string ⟨#[]⟩)).set (i := 2) hn3 hbs.2.1 (.string ⟨#[]⟩)).set (i := 3) hn3 hbs.2.1 (.int .i64 0)).set (i := 4) hn3 hbs.2.1 (.string ⟨#[]⟩)).set (i := 5) hn3 hbs.2.1 (.int .i64 0)).set (i := 6) hn3 hbs.2.1 (.string ⟨#[]⟩)).set (i := 7) hn3 hbs.2.1 (.string ⟨#[]⟩)).set (i := 8) hn3 hbs.2.1 (.int .i64 (xK : Int))).set (i := 9) hn3 hbs.2.1 (.slice none 0 0))
    have HGF := Lib.hid (grown_setN (i := 9) (grown_setN (i := 8) (grown_setN (i := 7) (grown_setN (i := 6) (grown_setN (i := 5) (grown_setN (i := 4) (grown_setN (i := 3) (grown_setN (i := 2) (grown_setN (i := 1) (grown_setN (i := 0) HGE.out (Nat.le_refl _) (.int .i64 6)) (Nat.le_refl _) (.string ⟨#[]⟩)) (Nat.le_refl _) (.string ⟨#[]⟩)) (Nat.le_refl _) (.int .i64 0)) (Nat.le_refl _) (.string ⟨#[]⟩)) (Nat.le_refl _) (.int .i64 0)) (Nat.le_refl _) (.string ⟨#[]⟩)) (Nat.le_refl _) (.string ⟨#[]⟩)) (Nat.le_refl _) (.int .i64 (xK : Int))) (Nat.le_refl _) (.slice none 0 0))
    clear kz0 kz1 kz2 kz3 kz4 kz5 kz6 kz7 kz8 kz9
    go_wp2_with fail
    have hwfK : Hid (Lit.wf (.int .i64 (xK : Int)) = true) := Lib.hid (WalkArith.wf_i64 (by omega))
    refine bodyPost_ret (v := .agg #[.int .i64 6, .string ⟨#[]⟩, .string ⟨#[]⟩, .int .i64 0, .string ⟨#[]⟩, .int .i64 0, .string ⟨#[]⟩, .string ⟨#[]⟩, .int .i64 (xK : Int), .slice none 0 0]) ?_ rfl ⟨⟨6, ⟨#[]⟩, ⟨#[]⟩, 0, ⟨#[]⟩, 0, ⟨#[]⟩, ⟨#[]⟩, (xK : Int), []⟩, none, 0, 0, (nx (nx s pInt) pInt), rfl, RdR.nil _ _ _, fun ad h => (by cases h), ⟨hw1.out, Nat.zero_le _, Nat.zero_le _, hw0.out, Nat.zero_le _, hw0.out, Nat.zero_le _, Nat.zero_le _, hwfK.out, fun r hr => (by cases hr)⟩, HSF.out, HC.out, HGF.out⟩
    simp [results, Tryd.results60, go_sem, kcz]
  · subst hkd
    clear HKK
    have kq3 := Blk.cell kb1
    go_wp2_with fail
    go_at_call 74
    refine (rtxtS w0 g M _ y3 hS2).mono ?_
    rintro e u4 ⟨xU, he, hxU, hSu, hp, hq⟩
    obtain rfl : e = .returned (.string xU) := he
    have HPU := Lib.hid hp
    rw [nx_def] at hSu
    have ku := heap_grown hq hn1.symm kb1
    have kru := heap_grown hq hn3.symm kr2
    clear kq3
    have hcu := Blk.cell ku
    have hfu := Blk.frozen ku
    have kw1 : (u4.setCell ⟨bc, 1, none⟩ (.string xU)).heap[bc]? = some (.cells #[.int .i64 9, .string xU, .string ⟨#[]⟩, .int .i64 0, .string ⟨#[]⟩, .int .i64 0, .string ⟨#[]⟩, .string ⟨#[]⟩, .int .i64 0, .slice none 0 0] 31 (0, 0)) := heap_set_near _ _ _ _ _ _ ku
    have kbU : (u4.setCell ⟨bc, 1, none⟩ (.string xU)).heap[bc]? = _ := kw1
    have krU : (u4.setCell ⟨bc, 1, none⟩ (.string xU)).heap[W.heap.size]? = _ := ((heap_set_far _ _ _ _ _ hn5.symm).trans kru)
    have hSU := (hSu.set (i := 1) hn1 hbs.1 (.string xU))
    have hGU := (grown_setN (i := 1) (hg2.trans hq) hbs.2.2 (.string xU))
    clear kb1 kr2 hS2 hg2 ku kru hq hSu hp kw1
    go_upto_region 4 with fail
    clear hcu hfu
    generalize (u4.setCell ⟨bc, 1, none⟩ (.string xU)) = y4 at *
    have kq4 := Blk.cell kbU
    go_wp2_with fail
    go_at_call 74
    refine (rtxtS w0 g M _ y4 hSU).mono ?_
    rintro e u5 ⟨xN, he, hxN, hSu, hp, hq⟩
    obtain rfl : e = .returned (.string xN) := he
    have HPN := Lib.hid hp
    rw [nx_def] at hSu
    have ku := heap_grown hq hn1.symm kbU
    have kru := heap_grown hq hn3.symm krU
    clear kq4
    have hcu := Blk.cell ku
    have hfu := Blk.frozen ku
    have kw2 : (u5.setCell ⟨bc, 2, none⟩ (.string xN)).heap[bc]? = some (.cells #[.int .i64 9, .string xU, .string xN, .int .i64 0, .string ⟨#[]⟩, .int .i64 0, .string ⟨#[]⟩, .string ⟨#[]⟩, .int .i64 0, .slice none 0 0] 31 (0, 0)) := heap_set_near _ _ _ _ _ _ ku
    have kbN : (u5.setCell ⟨bc, 2, none⟩ (.string xN)).heap[bc]? = _ := kw2
    have krN : (u5.setCell ⟨bc, 2, none⟩ (.string xN)).heap[W.heap.size]? = _ := ((heap_set_far _ _ _ _ _ hn5.symm).trans kru)
    have hSN := (hSu.set (i := 2) hn1 hbs.1 (.string xN))
    have hGN := (grown_setN (i := 2) (hGU.trans hq) hbs.2.2 (.string xN))
    clear kbU krU hSU hGU ku kru hq hSu hp kw2
    go_upto_region 6 with fail
    clear hcu hfu
    generalize (u5.setCell ⟨bc, 2, none⟩ (.string xN)) = y5 at *
    have kq5 := Blk.cell kbN
    go_wp2_with fail
    go_at_call 75
    refine (rttlS w0 g M _ y5 hSN).mono ?_
    rintro e u6 ⟨xT, he, hxT, hSu, hp, hq⟩
    obtain rfl : e = .returned (.agg #[.int .i64 xT.1, .string xT.2]) := he
    have HPT := Lib.hid hp
    rw [nx_def] at hSu
    have ku := heap_grown hq hn1.symm kbN
    have kru := heap_grown hq hn3.symm krN
    clear kq5
    have hcu := Blk.cell ku
    have hfu := Blk.frozen ku
    have kw3 : (u6.setCell ⟨bc, 3, none⟩ (.int .i64 xT.1)).heap[bc]? = some (.cells #[.int .i64 9, .string xU, .string xN, .int .i64 xT.1, .string ⟨#[]⟩, .int .i64 0, .string ⟨#[]⟩, .string ⟨#[]⟩, .int .i64 0, .slice none 0 0] 31 (0, 0)) := heap_set_near _ _ _ _ _ _ ku
    have kw4 : ((u6.setCell ⟨bc, 3, none⟩ (.int .i64 xT.1)).setCell ⟨bc, 4, none⟩ (.string xT.2)).heap[bc]? = some (.cells #[.int .i64 9, .string xU, .string xN, .int .i64 xT.1, .string xT.2, .int .i64 0, .string ⟨#[]⟩, .string ⟨#[]⟩, .int .i64 0, .slice none 0 0] 31 (0, 0)) := heap_set_near _ _ _ _ _ _ kw3
    have kbT : ((u6.setCell ⟨bc, 3, none⟩ (.int .i64 xT.1)).setCell ⟨bc, 4, none⟩ (.string xT.2)).heap[bc]? = _ := kw4
    have krT : ((u6.setCell ⟨bc, 3, none⟩ (.int .i64 xT.1)).setCell ⟨bc, 4, none⟩ (.string xT.2)).heap[W.heap.size]? = _ := ((heap_set_far _ _ _ _ _ hn5.symm).trans ((heap_set_far _ _ _ _ _ hn5.symm).trans kru))
    have hST := ((hSu.set (i := 3) hn1 hbs.1 (.int .i64 xT.1)).set (i := 4) hn1 hbs.1 (.string xT.2))
    have hGT := (grown_setN (i := 4) (grown_setN (i := 3) (hGN.trans hq) hbs.2.2 (.int .i64 xT.1)) hbs.2.2 (.string xT.2))
    clear kbN krN hSN hGN ku kru hq hSu hp kw3 kw4
    go_upto_region 8 with fail
    clear hcu hfu
    generalize ((u6.setCell ⟨bc, 3, none⟩ (.int .i64 xT.1)).setCell ⟨bc, 4, none⟩ (.string xT.2)) = y6 at *
    have kq6 := Blk.cell kbT
    go_wp2_with fail
    go_at_call 74
    refine (rtxtS w0 g M _ y6 hST).mono ?_
    rintro e u7 ⟨xX, he, hxX, hSu, hp, hq⟩
    obtain rfl : e = .returned (.string xX) := he
    have HPX := Lib.hid hp
    rw [nx_def] at hSu
    have ku := heap_grown hq hn1.symm kbT
    have kru := heap_grown hq hn3.symm krT
    clear kq6
    have hcu := Blk.cell ku
    have hfu := Blk.frozen ku
    have kw7 : (u7.setCell ⟨bc, 7, none⟩ (.string xX)).heap[bc]? = some (.cells #[.int .i64 9, .string xU, .string xN, .int .i64 xT.1, .string xT.2, .int .i64 0, .string ⟨#[]⟩, .string xX, .int .i64 0, .slice none 0 0] 31 (0, 0)) := heap_set_near _ _ _ _ _ _ ku
    have kbX : (u7.setCell ⟨bc, 7, none⟩ (.string xX)).heap[bc]? = _ := kw7
    have krX : (u7.setCell ⟨bc, 7, none⟩ (.string xX)).heap[W.heap.size]? = _ := ((heap_set_far _ _ _ _ _ hn5.symm).trans kru)
    have hSX := (hSu.set (i := 7) hn1 hbs.1 (.string xX))
    have hGX := (grown_setN (i := 7) (hGT.trans hq) hbs.2.2 (.string xX))
    clear kbT krT hST hGT ku kru hq hSu hp kw7
    go_upto_region 12 with fail
    clear hcu hfu
    generalize (u7.setCell ⟨bc, 7, none⟩ (.string xX)) = y7 at *
    have kq7 := Blk.cell kbX
    go_wp2_with fail
    go_at_call 59
    refine (rnumS w0 g M _ y7 hSX).mono ?_
    rintro e u8 ⟨xK, he, hxK, hSu, hp, hq⟩
    obtain rfl : e = .returned (.int .i64 (xK : Int)) := he
    have HPK := Lib.hid (pInt_ok hp)
    rw [nx_def, ← pInt_nx] at hSu
    have ku := heap_grown hq hn1.symm kbX
    have kru := heap_grown hq hn3.symm krX
    clear kq7
    have hcu := Blk.cell ku
    have hfu := Blk.frozen ku
    have kw8 : (u8.setCell ⟨bc, 8, none⟩ (.int .i64 (xK : Int))).heap[bc]? = some (.cells #[.int .i64 9, .string xU, .string xN, .int .i64 xT.1, .string xT.2, .int .i64 0, .string ⟨#[]⟩, .string xX, .int .i64 (xK : Int), .slice none 0 0] 31 (0, 0)) := heap_set_near _ _ _ _ _ _ ku
    have kbK : (u8.setCell ⟨bc, 8, none⟩ (.int .i64 (xK : Int))).heap[bc]? = _ := kw8
    have krK : (u8.setCell ⟨bc, 8, none⟩ (.int .i64 (xK : Int))).heap[W.heap.size]? = _ := ((heap_set_far _ _ _ _ _ hn5.symm).trans kru)
    have hSK := (hSu.set (i := 8) hn1 hbs.1 (.int .i64 (xK : Int)))
    have hGK := (grown_setN (i := 8) (hGX.trans hq) hbs.2.2 (.int .i64 (xK : Int)))
    clear kbX krX hSX hGX ku kru hq hSu hp kw8
    go_upto_region 14 with fail
    clear hcu hfu
    generalize (u8.setCell ⟨bc, 8, none⟩ (.int .i64 (xK : Int))) = y8 at *
    have HC : Hid (((nx (nx (nx (nx (nx (nx s pInt) pTxt) pTxt) pTtl) pTxt) pInt) = (s.bind pCg).map (·.2) ∧ ∀ q, s.bind pCg = some q → (⟨9, xU, xN, xT.1, xT.2, 0, ⟨#[]⟩, xX, (xK : Int), []⟩ : Cg) = q.1) ∨ (s.bind pCg = none ∧ cv (⟨9, xU, xN, xT.1, xT.2, 0, ⟨#[]⟩, xX, (xK : Int), []⟩ : Cg) ≠ 0)) := Lib.hid (by
      have f1 : fU (9 : Int) = true := rfl
      have f2 : fN (9 : Int) = true := rfl
      have f3 : fT (9 : Int) = true := rfl
      have f4 : fO (9 : Int) = false := rfl
      have f5 : fK (9 : Int) = true := rfl
      have f6 : fH (9 : Int) = false := rfl
      have hV : fV (9 : Int) = true := rfl
      have hc := pCg_chain (s := s) (k := 9) (u := xU) (nt := xN) (tx := xX) (t := xT) (o := (0, ⟨#[]⟩)) (n := (xK : Int)) (hs := []) HP1.out hV (by simp only [f1, f2, f3, f4, f5, f6, nx_on, nx_off]; exact ok_on HPU.out) (by simp only [f1, f2, f3, f4, f5, f6, nx_on, nx_off]; exact ok_on HPN.out) (by simp only [f1, f2, f3, f4, f5, f6, nx_on, nx_off]; exact ok_on HPT.out) (by simp only [f1, f2, f3, f4, f5, f6, nx_on, nx_off]; exact ok_off) (by simp only [f1, f2, f3, f4, f5, f6, nx_on, nx_off]; exact ok_on HPX.out) (by simp only [f1, f2, f3, f4, f5, f6, nx_on, nx_off]; exact ok_on HPK.out) (by simp only [f1, f2, f3, f4, f5, f6, nx_on, nx_off]; exact ok_off)
      simp only [f1, f2, f3, f4, f5, f6, nx_on, nx_off] at hc
      exact chain_left hc)
    have HSE := Lib.hid hSK
    have HGE := Lib.hid hGK
    clear hSK hGK
    have kcb := Blk.cell kbK
    have kfr := Blk.frozen krK
    have kcr0 := Blk.cell krK
    have kz0 : (y8.setCell ⟨W.heap.size, 0, none⟩ (.int .i64 9)).heap[W.heap.size]? = some (.cells #[.int .i64 9, .string ⟨#[]⟩, .string ⟨#[]⟩, .int .i64 0, .string ⟨#[]⟩, .int .i64 0, .string ⟨#[]⟩, .string ⟨#[]⟩, .int .i64 0, .slice none 0 0] 31 (0, 0)) := heap_set_near _ _ _ _ _ _ krK
    have kz1 : ((y8.setCell ⟨W.heap.size, 0, none⟩ (.int .i64 9)).setCell ⟨W.heap.size, 1, none⟩ (.string xU)).heap[W.heap.size]? = some (.cells #[.int .i64 9, .string xU, .string ⟨#[]⟩, .int .i64 0, .string ⟨#[]⟩, .int .i64 0, .string ⟨#[]⟩, .string ⟨#[]⟩, .int .i64 0, .slice none 0 0] 31 (0, 0)) := heap_set_near _ _ _ _ _ _ kz0
    have kz2 : (((y8.setCell ⟨W.heap.size, 0, none⟩ (.int .i64 9)).setCell ⟨W.heap.size, 1, none⟩ (.string xU)).setCell ⟨W.heap.size, 2, none⟩ (.string xN)).heap[W.heap.size]? = some (.cells #[.int .i64 9, .string xU, .string xN, .int .i64 0, .string ⟨#[]⟩, .int .i64 0, .string ⟨#[]⟩, .string ⟨#[]⟩, .int .i64 0, .slice none 0 0] 31 (0, 0)) := heap_set_near _ _ _ _ _ _ kz1
    have kz3 : ((((y8.setCell ⟨W.heap.size, 0, none⟩ (.int .i64 9)).setCell ⟨W.heap.size, 1, none⟩ (.string xU)).setCell ⟨W.heap.size, 2, none⟩ (.string xN)).setCell ⟨W.heap.size, 3, none⟩ (.int .i64 xT.1)).heap[W.heap.size]? = some (.cells #[.int .i64 9, .string xU, .string xN, .int .i64 xT.1, .string ⟨#[]⟩, .int .i64 0, .string ⟨#[]⟩, .string ⟨#[]⟩, .int .i64 0, .slice none 0 0] 31 (0, 0)) := heap_set_near _ _ _ _ _ _ kz2
    have kz4 : (((((y8.setCell ⟨W.heap.size, 0, none⟩ (.int .i64 9)).setCell ⟨W.heap.size, 1, none⟩ (.string xU)).setCell ⟨W.heap.size, 2, none⟩ (.string xN)).setCell ⟨W.heap.size, 3, none⟩ (.int .i64 xT.1)).setCell ⟨W.heap.size, 4, none⟩ (.string xT.2)).heap[W.heap.size]? = some (.cells #[.int .i64 9, .string xU, .string xN, .int .i64 xT.1, .string xT.2, .int .i64 0, .string ⟨#[]⟩, .string ⟨#[]⟩, .int .i64 0, .slice none 0 0] 31 (0, 0)) := heap_set_near _ _ _ _ _ _ kz3
    have kz5 : ((((((y8.setCell ⟨W.heap.size, 0, none⟩ (.int .i64 9)).setCell ⟨W.heap.size, 1, none⟩ (.string xU)).setCell ⟨W.heap.size, 2, none⟩ (.string xN)).setCell ⟨W.heap.size, 3, none⟩ (.int .i64 xT.1)).setCell ⟨W.heap.size, 4, none⟩ (.string xT.2)).setCell ⟨W.heap.size, 5, none⟩ (.int .i64 0)).heap[W.heap.size]? = some (.cells #[.int .i64 9, .string xU, .string xN, .int .i64 xT.1, .string xT.2, .int .i64 0, .string ⟨#[]⟩, .string ⟨#[]⟩, .int .i64 0, .slice none 0 0] 31 (0, 0)) := heap_set_near _ _ _ _ _ _ kz4
    have kz6 : (((((((y8.setCell ⟨W.heap.size, 0, none⟩ (.int .i64 9)).setCell ⟨W.heap.size, 1, none⟩ (.string xU)).setCell ⟨W.heap.size, 2, none⟩ (.string xN)).setCell ⟨W.heap.size, 3, none⟩ (.int .i64 xT.1)).setCell ⟨W.heap.size, 4, none⟩ (.string xT.2)).setCell ⟨W.heap.size, 5, none⟩ (.int .i64 0)).setCell ⟨W.heap.size, 6, none⟩ (.string ⟨#[]⟩)).heap[W.heap.size]? = some (.cells #[.int .i64 9, .string xU, .string xN, .int .i64 xT.1, .string xT.2, .int .i64 0, .string ⟨#[]⟩, .string ⟨#[]⟩, .int .i64 0, .slice none 0 0] 31 (0, 0)) := heap_set_near _ _ _ _ _ _ kz5
    have kz7 : ((((((((y8.setCell ⟨W.heap.size, 0, none⟩ (.int .i64 9)).setCell ⟨W.heap.size, 1, none⟩ (.string xU)).setCell ⟨W.heap.size, 2, none⟩ (.string xN)).setCell ⟨W.heap.size, 3, none⟩ (.int .i64 xT.1)).setCell ⟨W.heap.size, 4, none⟩ (.string xT.2)).setCell ⟨W.heap.size, 5, none⟩ (.int .i64 0)).setCell ⟨W.heap.size, 6, none⟩ (.string ⟨#[]⟩)).setCell ⟨W.heap.size, 7, none⟩ (.string xX)).heap[W.heap.size]? = some (.cells #[.int .i64 9, .string xU, .string xN, .int .i64 xT.1, .string xT.2, .int .i64 0, .string ⟨#[]⟩, .string xX, .int .i64 0, .slice none 0 0] 31 (0, 0)) := heap_set_near _ _ _ _ _ _ kz6
    have kz8 : (((((((((y8.setCell ⟨W.heap.size, 0, none⟩ (.int .i64 9)).setCell ⟨W.heap.size, 1, none⟩ (.string xU)).setCell ⟨W.heap.size, 2, none⟩ (.string xN)).setCell ⟨W.heap.size, 3, none⟩ (.int .i64 xT.1)).setCell ⟨W.heap.size, 4, none⟩ (.string xT.2)).setCell ⟨W.heap.size, 5, none⟩ (.int .i64 0)).setCell ⟨W.heap.size, 6, none⟩ (.string ⟨#[]⟩)).setCell ⟨W.heap.size, 7, none⟩ (.string xX)).setCell ⟨W.heap.size, 8, none⟩ (.int .i64 (xK : Int))).heap[W.heap.size]? = some (.cells #[.int .i64 9, .string xU, .string xN, .int .i64 xT.1, .string xT.2, .int .i64 0, .string ⟨#[]⟩, .string xX, .int .i64 (xK : Int), .slice none 0 0] 31 (0, 0)) := heap_set_near _ _ _ _ _ _ kz7
    have kz9 : ((((((((((y8.setCell ⟨W.heap.size, 0, none⟩ (.int .i64 9)).setCell ⟨W.heap.size, 1, none⟩ (.string xU)).setCell ⟨W.heap.size, 2, none⟩ (.string xN)).setCell ⟨W.heap.size, 3, none⟩ (.int .i64 xT.1)).setCell ⟨W.heap.size, 4, none⟩ (.string xT.2)).setCell ⟨W.heap.size, 5, none⟩ (.int .i64 0)).setCell ⟨W.heap.size, 6, none⟩ (.string ⟨#[]⟩)).setCell ⟨W.heap.size, 7, none⟩ (.string xX)).setCell ⟨W.heap.size, 8, none⟩ (.int .i64 (xK : Int))).setCell ⟨W.heap.size, 9, none⟩ (.slice none 0 0)).heap[W.heap.size]? = some (.cells #[.int .i64 9, .string xU, .string xN, .int .i64 xT.1, .string xT.2, .int .i64 0, .string ⟨#[]⟩, .string xX, .int .i64 (xK : Int), .slice none 0 0] 31 (0, 0)) := heap_set_near _ _ _ _ _ _ kz8
    have kcz := Blk.cell kz9
    have HSF := Lib.hid ((((((((((HSE.out.set (i := 0) hn3 hbs.2.1 (.int .i64 9)).set (i := 1) hn3 hbs.2.1 (.string xU)).set (i := 2) hn3 hbs.2.1 (.string xN)).set (i := 3) hn3 hbs.2.1 (.int .i64 xT.1)).set (i := 4) hn3 hbs.2.1 (.string xT.2)).set (i := 5) hn3 hbs.2.1 (.int .i64 0)).set (i := 6) hn3 hbs.2.1 (.string ⟨#[]⟩)).set (i := 7) hn3 hbs.2.1 (.string xX)).set (i := 8) hn3 hbs.2.1 (.int .i64 (xK : Int))).set (i := 9) hn3 hbs.2.1 (.slice none 0 0))
    have HGF := Lib.hid (grown_setN (i := 9) (grown_setN (i := 8) (grown_setN (i := 7) (grown_setN (i := 6) (grown_setN (i := 5) (grown_setN (i := 4) (grown_setN (i := 3) (grown_setN (i := 2) (grown_setN (i := 1) (grown_setN (i := 0) HGE.out (Nat.le_refl _) (.int .i64 9)) (Nat.le_refl _) (.string xU)) (Nat.le_refl _) (.string xN)) (Nat.le_refl _) (.int .i64 xT.1)) (Nat.le_refl _) (.string xT.2)) (Nat.le_refl _) (.int .i64 0)) (Nat.le_refl _) (.string ⟨#[]⟩)) (Nat.le_refl _) (.string xX)) (Nat.le_refl _) (.int .i64 (xK : Int))) (Nat.le_refl _) (.slice none 0 0))
    clear kz0 kz1 kz2 kz3 kz4 kz5 kz6 kz7 kz8 kz9
    go_wp2_with fail
    have hwfT : Hid (Lit.wf (.int .i64 xT.1) = true) := Lib.hid (WalkArith.wf_i64 (by omega))
    have hwfK : Hid (Lit.wf (.int .i64 (xK : Int)) = true) := Lib.hid (WalkArith.wf_i64 (by omega))
    refine bodyPost_ret (v := .agg #[.int .i64 9, .string xU, .string xN, .int .i64 xT.1, .string xT.2, .int .i64 0, .string ⟨#[]⟩, .string xX, .int .i64 (xK : Int), .slice none 0 0]) ?_ rfl ⟨⟨9, xU, xN, xT.1, xT.2, 0, ⟨#[]⟩, xX, (xK : Int), []⟩, none, 0, 0, (nx (nx (nx (nx (nx (nx s pInt) pTxt) pTxt) pTtl) pTxt) pInt), rfl, RdR.nil _ _ _, fun ad h => (by cases h), ⟨hw1.out, Nat.le_trans hxU HM.out, Nat.le_trans hxN HM.out, hwfT.out, Nat.le_trans hxT.2.2 HM.out, hw0.out, Nat.zero_le _, Nat.le_trans hxX HM.out, hwfK.out, fun r hr => (by cases hr)⟩, HSF.out, HC.out, HGF.out⟩
    simp [results, Tryd.results60, go_sem, kcz]
  · subst hkd
    clear HKK
    have kq3 := Blk.cell kb1
    go_wp2_with fail
    go_at_call 74
    refine (rtxtS w0 g M _ y3 hS2).mono ?_
    rintro e u4 ⟨xU, he, hxU, hSu, hp, hq⟩
    obtain rfl : e = .returned (.string xU) := he
    have HPU := Lib.hid hp
    rw [nx_def] at hSu
    have ku := heap_grown hq hn1.symm kb1
    have kru := heap_grown hq hn3.symm kr2
    clear kq3
    have hcu := Blk.cell ku
    have hfu := Blk.frozen ku
    have kw1 : (u4.setCell ⟨bc, 1, none⟩ (.string xU)).heap[bc]? = some (.cells #[.int .i64 10, .string xU, .string ⟨#[]⟩, .int .i64 0, .string ⟨#[]⟩, .int .i64 0, .string ⟨#[]⟩, .string ⟨#[]⟩, .int .i64 0, .slice none 0 0] 31 (0, 0)) := heap_set_near _ _ _ _ _ _ ku
    have kbU : (u4.setCell ⟨bc, 1, none⟩ (.string xU)).heap[bc]? = _ := kw1
    have krU : (u4.setCell ⟨bc, 1, none⟩ (.string xU)).heap[W.heap.size]? = _ := ((heap_set_far _ _ _ _ _ hn5.symm).trans kru)
    have hSU := (hSu.set (i := 1) hn1 hbs.1 (.string xU))
    have hGU := (grown_setN (i := 1) (hg2.trans hq) hbs.2.2 (.string xU))
    clear kb1 kr2 hS2 hg2 ku kru hq hSu hp kw1
    go_upto_region 4 with fail
    clear hcu hfu
    generalize (u4.setCell ⟨bc, 1, none⟩ (.string xU)) = y4 at *
    have kq4 := Blk.cell kbU
    go_wp2_with fail
    go_at_call 59
    refine (rnumS w0 g M _ y4 hSU).mono ?_
    rintro e u5 ⟨xK, he, hxK, hSu, hp, hq⟩
    obtain rfl : e = .returned (.int .i64 (xK : Int)) := he
    have HPK := Lib.hid (pInt_ok hp)
    rw [nx_def, ← pInt_nx] at hSu
    have ku := heap_grown hq hn1.symm kbU
    have kru := heap_grown hq hn3.symm krU
    clear kq4
    have hcu := Blk.cell ku
    have hfu := Blk.frozen ku
    have kw8 : (u5.setCell ⟨bc, 8, none⟩ (.int .i64 (xK : Int))).heap[bc]? = some (.cells #[.int .i64 10, .string xU, .string ⟨#[]⟩, .int .i64 0, .string ⟨#[]⟩, .int .i64 0, .string ⟨#[]⟩, .string ⟨#[]⟩, .int .i64 (xK : Int), .slice none 0 0] 31 (0, 0)) := heap_set_near _ _ _ _ _ _ ku
    have kbK : (u5.setCell ⟨bc, 8, none⟩ (.int .i64 (xK : Int))).heap[bc]? = _ := kw8
    have krK : (u5.setCell ⟨bc, 8, none⟩ (.int .i64 (xK : Int))).heap[W.heap.size]? = _ := ((heap_set_far _ _ _ _ _ hn5.symm).trans kru)
    have hSK := (hSu.set (i := 8) hn1 hbs.1 (.int .i64 (xK : Int)))
    have hGK := (grown_setN (i := 8) (hGU.trans hq) hbs.2.2 (.int .i64 (xK : Int)))
    clear kbU krU hSU hGU ku kru hq hSu hp kw8
    go_upto_region 14 with fail
    clear hcu hfu
    generalize (u5.setCell ⟨bc, 8, none⟩ (.int .i64 (xK : Int))) = y5 at *
    have HC : Hid (((nx (nx (nx s pInt) pTxt) pInt) = (s.bind pCg).map (·.2) ∧ ∀ q, s.bind pCg = some q → (⟨10, xU, ⟨#[]⟩, 0, ⟨#[]⟩, 0, ⟨#[]⟩, ⟨#[]⟩, (xK : Int), []⟩ : Cg) = q.1) ∨ (s.bind pCg = none ∧ cv (⟨10, xU, ⟨#[]⟩, 0, ⟨#[]⟩, 0, ⟨#[]⟩, ⟨#[]⟩, (xK : Int), []⟩ : Cg) ≠ 0)) := Lib.hid (by
      have f1 : fU (10 : Int) = true := rfl
      have f2 : fN (10 : Int) = false := rfl
      have f3 : fT (10 : Int) = false := rfl
      have f4 : fO (10 : Int) = false := rfl
      have f5 : fK (10 : Int) = true := rfl
      have f6 : fH (10 : Int) = false := rfl
      have hV : fV (10 : Int) = true := rfl
      have hc := pCg_chain (s := s) (k := 10) (u := xU) (nt := ⟨#[]⟩) (tx := ⟨#[]⟩) (t := (0, ⟨#[]⟩)) (o := (0, ⟨#[]⟩)) (n := (xK : Int)) (hs := []) HP1.out hV (by simp only [f1, f2, f3, f4, f5, f6, nx_on, nx_off]; exact ok_on HPU.out) (by simp only [f1, f2, f3, f4, f5, f6, nx_on, nx_off]; exact ok_off) (by simp only [f1, f2, f3, f4, f5, f6, nx_on, nx_off]; exact ok_off) (by simp only [f1, f2, f3, f4, f5, f6, nx_on, nx_off]; exact ok_off) (by simp only [f1, f2, f3, f4, f5, f6, nx_on, nx_off]; exact ok_off) (by simp only [f1, f2, f3, f4, f5, f6, nx_on, nx_off]; exact ok_on HPK.out) (by simp only [f1, f2, f3, f4, f5, f6, nx_on, nx_off]; exact ok_off)
      simp only [f1, f2, f3, f4, f5, f6, nx_on, nx_off] at hc
      exact chain_left hc)
    have HSE := Lib.hid hSK
    have HGE := Lib.hid hGK
    clear hSK hGK
    have kcb := Blk.cell kbK
    have kfr := Blk.frozen krK
    have kcr0 := Blk.cell krK
    have kz0 : (y5.setCell ⟨W.heap.size, 0, none⟩ (.int .i64 10)).heap[W.heap.size]? = some (.cells #[.int .i64 10, .string ⟨#[]⟩, .string ⟨#[]⟩, .int .i64 0, .string ⟨#[]⟩, .int .i64 0, .string ⟨#[]⟩, .string ⟨#[]⟩, .int .i64 0, .slice none 0 0] 31 (0, 0)) := heap_set_near _ _ _ _ _ _ krK
    have kz1 : ((y5.setCell ⟨W.heap.size, 0, none⟩ (.int .i64 10)).setCell ⟨W.heap.size, 1, none⟩ (.string xU)).heap[W.heap.size]? = some (.cells #[.int .i64 10, .string xU, .string ⟨#[]⟩, .int .i64 0, .string ⟨#[]⟩, .int .i64 0, .string ⟨#[]⟩, .string ⟨#[]⟩, .int .i64 0, .slice none 0 0] 31 (0, 0)) := heap_set_near _ _ _ _ _ _ kz0
    have kz2 : (((y5.setCell ⟨W.heap.size, 0, none⟩ (.int .i64 10)).setCell ⟨W.heap.size, 1, none⟩ (.string xU)).setCell ⟨W.heap.size, 2, none⟩ (.string ⟨#[]⟩)).heap[W.heap.size]? = some (.cells #[.int .i64 10, .string xU, .string ⟨#[]⟩, .int .i64 0, .string ⟨#[]⟩, .int .i64 0, .string ⟨#[]⟩, .string ⟨#[]⟩, .int .i64 0, .slice none 0 0] 31 (0, 0)) := heap_set_near _ _ _ _ _ _ kz1
    have kz3 : ((((y5.setCell ⟨W.heap.size, 0, none⟩ (.int .i64 10)).setCell ⟨W.heap.size, 1, none⟩ (.string xU)).setCell ⟨W.heap.size, 2, none⟩ (.string ⟨#[]⟩)).setCell ⟨W.heap.size, 3, none⟩ (.int .i64 0)).heap[W.heap.size]? = some (.cells #[.int .i64 10, .string xU, .string ⟨#[]⟩, .int .i64 0, .string ⟨#[]⟩, .int .i64 0, .string ⟨#[]⟩, .string ⟨#[]⟩, .int .i64 0, .slice none 0 0] 31 (0, 0)) := heap_set_near _ _ _ _ _ _ kz2
    have kz4 : (((((y5.setCell ⟨W.heap.size, 0, none⟩ (.int .i64 10)).setCell ⟨W.heap.size, 1, none⟩ (.string xU)).setCell ⟨W.heap.size, 2, none⟩ (.string ⟨#[]⟩)).setCell ⟨W.heap.size, 3, none⟩ (.int .i64 0)).setCell ⟨W.heap.size, 4, none⟩ (.string ⟨#[]⟩)).heap[W.heap.size]? = some (.cells #[.int .i64 10, .string xU, .string ⟨#[]⟩, .int .i64 0, .string ⟨#[]⟩, .int .i64 0, .string ⟨#[]⟩, .string ⟨#[]⟩, .int .i64 0, .slice none 0 0] 31 (0, 0)) := heap_set_near _ _ _ _ _ _ kz3
    have kz5 : ((((((y5.setCell ⟨W.heap.size, 0, none⟩ (.int .i64 10)).setCell ⟨W.heap.size, 1, none⟩ (.string xU)).setCell ⟨W.heap.size, 2, none⟩ (.string ⟨#[]⟩)).setCell ⟨W.heap.size, 3, none⟩ (.int .i64 0)).setCell ⟨W.heap.size, 4, none⟩ (.string ⟨#[]⟩)).setCell ⟨W.heap.size, 5, none⟩ (.int .i64 0)).heap[W.heap.size]? = some (.cells #[.int .i64 10, .string xU, .string ⟨#[]⟩, .int .i64 0, .string ⟨#[]⟩, .int .i64 0, .string ⟨#[]⟩, .string ⟨#[]⟩, .int .i64 0, .slice none 0 0] 31 (0, 0)) := heap_set_near _ _ _ _ _ _ kz4
    have kz6 : (((((((y5.setCell ⟨W.heap.size, 0, none⟩ (.int .i64 10)).setCell ⟨W.heap.size, 1, none⟩ (.string xU)).setCell ⟨W.heap.size, 2, none⟩ (.string ⟨#[]⟩)).setCell ⟨W.heap.size, 3, none⟩ (.int .i64 0)).setCell ⟨W.heap.size, 4, none⟩ (.string ⟨#[]⟩)).setCell ⟨W.heap.size, 5, none⟩ (.int .i64 0)).setCell ⟨W.heap.size, 6, none⟩ (.string ⟨#[]⟩)).heap[W.heap.size]? = some (.cells #[.int .i64 10, .string xU, .string ⟨#[]⟩, .int .i64 0, .string ⟨#[]⟩, .int .i64 0, .string ⟨#[]⟩, .string ⟨#[]⟩, .int .i64 0, .slice none 0 0] 31 (0, 0)) := heap_set_near _ _ _ _ _ _ kz5
    have kz7 : ((((((((y5.setCell ⟨W.heap.size, 0, none⟩ (.int .i64 10)).setCell ⟨W.heap.size, 1, none⟩ (.string xU)).setCell ⟨W.heap.size, 2, none⟩ (.string ⟨#[]⟩)).setCell ⟨W.heap.size, 3, none⟩ (.int .i64 0)).setCell ⟨W.heap.size, 4, none⟩ (.string ⟨#[]⟩)).setCell ⟨W.heap.size, 5, none⟩ (.int .i64 0)).setCell ⟨W.heap.size, 6, none⟩ (.string ⟨#[]⟩)).setCell ⟨W.heap.size, 7, none⟩ (.string ⟨#[]⟩)).heap[W.heap.size]? = some (.cells #[.int .i64 10, .string xU, .string ⟨#[]⟩, .int .i64 0, .string ⟨#[]⟩, .int .i64 0, .string ⟨#[]⟩, .string ⟨#[]⟩, .int .i64 0, .slice none 0 0] 31 (0, 0)) := heap_set_near _ _ _ _ _ _ kz6
    have kz8 : (((((((((y5.setCell ⟨W.heap.size, 0, none⟩ (.int .i64 10)).setCell ⟨W.heap.size, 1, none⟩ (.string xU)).setCell ⟨W.heap.size, 2, none⟩ (.string ⟨#[]⟩)).setCell ⟨W.heap.size, 3, none⟩ (.int .i64 0)).setCell ⟨W.heap.size, 4, none⟩ (.string ⟨#[]⟩)).setCell ⟨W.heap.size, 5, none⟩ (.int .i64 0)).setCell ⟨W.heap.size, 6, none⟩ (.string ⟨#[]⟩)).setCell ⟨W.heap.size, 7, none⟩ (.string ⟨#[]⟩)).setCell ⟨W.heap.size, 8, none⟩ (.int .i64 (xK : Int))).heap[W.heap.size]? = some (.cells #[.int .i64 10, .string xU, .string ⟨#[]⟩, .int .i64 0, .string ⟨#[]⟩, .int .i64 0, .string ⟨#[]⟩, .string ⟨#[]⟩, .int .i64 (xK : Int), .slice none 0 0] 31 (0, 0)) := heap_set_near _ _ _ _ _ _ kz7
    have kz9 : ((((((((((y5.setCell ⟨W.heap.size, 0, none⟩ (.int .i64 10)).setCell ⟨W.heap.size, 1, none⟩ (.string xU)).setCell ⟨W.heap.size, 2, none⟩ (.string ⟨#[]⟩)).setCell ⟨W.heap.size, 3, none⟩ (.int .i64 0)).setCell ⟨W.heap.size, 4, none⟩ (.string ⟨#[]⟩)).setCell ⟨W.heap.size, 5, none⟩ (.int .i64 0)).setCell ⟨W.heap.size, 6, none⟩ (.string ⟨#[]⟩)).setCell ⟨W.heap.size, 7, none⟩ (.string ⟨#[]⟩)).setCell ⟨W.heap.size, 8, none⟩ (.int .i64 (xK : Int))).setCell ⟨W.heap.size, 9, none⟩ (.slice none 0 0)).heap[W.heap.size]? = some (.cells #[.int .i64 10, .string xU, .string ⟨#[]⟩, .int .i64 0, .string ⟨#[]⟩, .int .i64 0, .string ⟨#[]⟩, .string ⟨#[]⟩, .int .i64 (xK : Int), .slice none 0 0] 31 (0, 0)) := heap_set_near _ _ _ _ _ _ kz8
    have kcz := Blk.cell kz9
    have HSF := Lib.hid ((((((((((HSE.out.set (i := 0) hn3 hbs.2.1 (.int .i64 10)).set (i := 1) hn3 hbs.2.1 (.string xU)).set (i := 2) hn3 hbs.2.1 (.string ⟨#[]⟩)).set (i := 3) hn3 hbs.2.1 (.int .i64 0)).set (i := 4) hn3 hbs.2.1 (.string ⟨#[]⟩)).set (i := 5) hn3 hbs.2.1 (.int .i64 0)).set (i := 6) hn3 hbs.2.1 (.string ⟨#[]⟩)).set (i := 7) hn3 hbs.2.1 (.string ⟨#[]⟩)).set (i := 8) hn3 hbs.2.1 (.int .i64 (xK : Int))).set (i := 9) hn3 hbs.2.1 (.slice none 0 0))
    have HGF := Lib.hid (grown_setN (i := 9) (grown_setN (i := 8) (grown_setN (i := 7) (grown_setN (i := 6) (grown_setN (i := 5) (grown_setN (i := 4) (grown_setN (i := 3) (grown_setN (i := 2) (grown_setN (i := 1) (grown_setN (i := 0) HGE.out (Nat.le_refl _) (.int .i64 10)) (Nat.le_refl _) (.string xU)) (Nat.le_refl _) (.string ⟨#[]⟩)) (Nat.le_refl _) (.int .i64 0)) (Nat.le_refl _) (.string ⟨#[]⟩)) (Nat.le_refl _) (.int .i64 0)) (Nat.le_refl _) (.string ⟨#[]⟩)) (Nat.le_refl _) (.string ⟨#[]⟩)) (Nat.le_refl _) (.int .i64 (xK : Int))) (Nat.le_refl _) (.slice none 0 0))
    clear kz0 kz1 kz2 kz3 kz4 kz5 kz6 kz7 kz8 kz9
    go_wp2_with fail
    have hwfK : Hid (Lit.wf (.int .i64 (xK : Int)) = true) := Lib.hid (WalkArith.wf_i64 (by omega))
    refine bodyPost_ret (v := .agg #[.int .i64 10, .string xU, .string ⟨#[]⟩, .int .i64 0, .string ⟨#[]⟩, .int .i64 0, .string ⟨#[]⟩, .string ⟨#[]⟩, .int .i64 (xK : Int), .slice none 0 0]) ?_ rfl ⟨⟨10, xU, ⟨#[]⟩, 0, ⟨#[]⟩, 0, ⟨#[]⟩, ⟨#[]⟩, (xK : Int), []⟩, none, 0, 0, (nx (nx (nx s pInt) pTxt) pInt), rfl, RdR.nil _ _ _, fun ad h => (by cases h), ⟨hw1.out, Nat.le_trans hxU HM.out, Nat.zero_le _, hw0.out, Nat.zero_le _, hw0.out, Nat.zero_le _, Nat.zero_le _, hwfK.out, fun r hr => (by cases hr)⟩, HSF.out, HC.out, HGF.out⟩
    simp [results, Tryd.results60, go_sem, kcz]
end Go.Proofs.YtbeijpajodgpeaaDoor
