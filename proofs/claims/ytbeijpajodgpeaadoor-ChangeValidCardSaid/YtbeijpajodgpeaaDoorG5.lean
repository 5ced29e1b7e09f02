/- The walks of Same (bytes, revisions), SameChange and SameChanges. Printed by gen_g5.py -/
import Derived.Test.YtbeijpajodgpeaaDoorC2
import Derived.Test.YtbeijpajodgpeaaDoorTab
import Derived.Test.YtbeijpajodgpeaaDoorCR
import Derived.Test.YtbeijpajodgpeaaDoorGen2
namespace Go.Proofs.YtbeijpajodgpeaaDoor
open Go.RowKit
set_option linter.unusedSimpArgs false
set_option linter.unusedVariables false

theorem toList_iff (a b : ByteArray) : (a.toList = b.toList) = (a = b) := by
  have := str_beq a b
  by_cases h : a = b
  · subst h; simp
  · rw [decide_eq_false h] at this
    simp [h]
    simpa using this
theorem run_eql_rev (anum : Int) (aus : ByteArray) (ant : ByteArray) (atx : ByteArray) (ami : Int) (asq : Int) (bnum : Int) (bus : ByteArray) (bnt : ByteArray) (btx : ByteArray) (bmi : Int) (bsq : Int) (W : World) :
    (binOp .eql 67 (.agg #[.int .i64 anum, .string aus, .string ant, .string atx, .int .i64 ami, .int .i64 asq]) (.agg #[.int .i64 bnum, .string bus, .string bnt, .string btx, .int .i64 bmi, .int .i64 bsq])).run Tryd.prog W = .ok (.bool (decide ((⟨anum, aus, ant, atx, ami, asq⟩ : Rv) = ⟨bnum, bus, bnt, btx, bmi, bsq⟩))) W := by
  have h1 : Tryd.prog.underlying 67 = some (.struct (Tryd.prog.fieldsOf 67)) := by kernel_rfl
  have h2 : Tryd.prog.stoodInHeld 67 = false := by kernel_rfl
  rw [run_eql_struct, run_equalIn_struct W _ _ _ _ h1 h2]
  simp [go_sem]
  simp only [toList_iff]
  by_cases e0 : anum = bnum <;> by_cases e1 : aus = bus <;> by_cases e2 : ant = bnt <;> by_cases e3 : atx = btx <;> by_cases e4 : ami = bmi <;> by_cases e5 : asq = bsq <;> simp [e0, e1, e2, e3, e4, e5]
theorem run_neq_rev (anum : Int) (aus : ByteArray) (ant : ByteArray) (atx : ByteArray) (ami : Int) (asq : Int) (bnum : Int) (bus : ByteArray) (bnt : ByteArray) (btx : ByteArray) (bmi : Int) (bsq : Int) (W : World) :
    (binOp .neq 67 (.agg #[.int .i64 anum, .string aus, .string ant, .string atx, .int .i64 ami, .int .i64 asq]) (.agg #[.int .i64 bnum, .string bus, .string bnt, .string btx, .int .i64 bmi, .int .i64 bsq])).run Tryd.prog W = .ok (.bool (!decide ((⟨anum, aus, ant, atx, ami, asq⟩ : Rv) = ⟨bnum, bus, bnt, btx, bmi, bsq⟩))) W := by
  have h1 : Tryd.prog.underlying 67 = some (.struct (Tryd.prog.fieldsOf 67)) := by kernel_rfl
  have h2 : Tryd.prog.stoodInHeld 67 = false := by kernel_rfl
  rw [run_neq_struct, run_equalIn_struct W _ _ _ _ h1 h2]
  simp [go_sem]
  simp only [toList_iff]
  by_cases e0 : anum = bnum <;> by_cases e1 : aus = bus <;> by_cases e2 : ant = bnt <;> by_cases e3 : atx = btx <;> by_cases e4 : ami = bmi <;> by_cases e5 : asq = bsq <;> simp [e0, e1, e2, e3, e4, e5]
theorem rev_guard : Tryd.prog.eqGuardType Tryd.prog.depth 67 = false := by kernel_rfl
theorem run_eql_tit (x : Int) (s : ByteArray) (y : Int) (u : ByteArray) (W : World) :
    (binOp .eql 28 (.agg #[.int .i64 x, .string s]) (.agg #[.int .i64 y, .string u])).run Tryd.prog W = .ok (.bool (decide (x = y) && decide (s = u))) W := by
  have h1 : Tryd.prog.underlying 28 = some (.struct (Tryd.prog.fieldsOf 28)) := by kernel_rfl
  have h2 : Tryd.prog.stoodInHeld 28 = false := by kernel_rfl
  rw [run_eql_struct, run_equalIn_struct W _ _ _ _ h1 h2]
  simp [go_sem]
  simp only [toList_iff]
  by_cases e1 : x = y <;> by_cases e2 : s = u <;> simp [e1, e2]
theorem tit_guard : Tryd.prog.eqGuardType Tryd.prog.depth 28 = false := by kernel_rfl

set_option maxRecDepth 100000 in
set_option maxHeartbeats 4000000 in
theorem same_bytes (A : Option Addr) (n c : Nat) (L : List UInt8) (A2 : Option Addr) (n2 c2 : Nat) (L2 : List UInt8) (w : World) (hr : RdB w A n c L) (hr2 : RdB w A2 n2 c2 L2) :
    Calls Tryd.prog 15 #[.slice A n c, .slice A2 n2 c2] w fun e w' => e = .returned (.bool (decide (L = L2))) ∧ Below w.heap.size w w' := by
  have hmax : n ≤ maxLen := Nat.le_trans hr.cap hr.max
  unfold maxLen at hmax
  have HNL := Lib.hid hr.len
  have HNL2 := Lib.hid hr2.len
  by_cases hz : n = n2
  · subst hz
    have HO := Lib.hid fun (h : 0 < n) => hr.opened h
    have HO2 := Lib.hid fun (h : 0 < n) => hr2.opened h
    clear hr hr2
    have HR1 : Hid (∀ k, k < n → L.getD k 0 ≠ L2.getD k 0 → decide (L = L2) = false) := Lib.hid fun k hk h => by
      rw [decide_eq_false_iff_not]
      intro e
      exact h (by rw [e])
    have HR2 : Hid ((∀ k, k < n → L.getD k 0 = L2.getD k 0) → decide (L = L2) = true) := Lib.hid fun h => by
      rw [decide_eq_true_iff]
      apply List.ext_getElem (by rw [← HNL.out, ← HNL2.out])
      intro i h1 h2
      have := h i (by rw [HNL.out]; exact h1)
      simpa [List.getD, List.getElem?_eq_getElem h1, List.getElem?_eq_getElem h2] using this
    generalize decide (L = L2) = res at *
    go_enter Tryd.func15, Tryd.ntmps15
    go_wp2
    go_loopw [5] (fun v wr => ∃ k : Nat, k ≤ n ∧ v = .int .i64 k ∧ Below w.heap.size w wr ∧ Hid (∀ j, j < k → L.getD j 0 = L2.getD j 0)) (fun v _ => n - (intOf v).toNat)
    case atStart => exact ⟨0, Nat.zero_le _, rfl, Below.refl _ _, Lib.hid fun j h => by omega⟩
    case round =>
      obtain ⟨k, hk, rfl, hbw, HB⟩ := hrel
      by_cases hlt : k < n
      · obtain ⟨b, off, rfl, hb, hc⟩ := HO.out (by omega)
        obtain ⟨b2, off2, rfl, hb2, hc2⟩ := HO2.out (by omega)
        have kl1 : k < L.length := by rw [← HNL.out]; exact hlt
        have kl2 : k < L2.length := by rw [← HNL2.out]; exact hlt
        have c1 := (hbw.cell (p := ⟨b, off + k, none⟩) hb).trans (hc k hlt)
        have c2 := (hbw.cell (p := ⟨b2, off2 + k, none⟩) hb2).trans (hc2 k hlt)
        clear hc HO hc2 HO2 kl1 kl2
        have z0 : (0 : Int) ≤ (k : Int) := by omega
        have z1 : (k : Int) < (n : Int) := by omega
        have HB1 := Lib.hid (HR1.out k hlt)
        have HB2 : Hid (L.getD k 0 = L2.getD k 0 → ∀ j, j < k + 1 → L.getD j 0 = L2.getD j 0) := Lib.hid fun h j hj => by
          rcases Nat.lt_or_ge j k with h1 | h1
          · exact HB.out j h1
          · obtain rfl : j = k := by omega
            exact h
        generalize L.getD k 0 = a at *
        generalize L2.getD k 0 = a2 at *
        by_cases he : a = a2
        · have HBt := Lib.hid (HB2.out he)
          subst he
          clear HB1 HB2
          go_wp2_with fail
          go_quiet (fail)
          go_wp2
          go_roundw
          case rel => exact ⟨k + 1, by omega, by go_num, below_drewN hbw _, HBt⟩
          case measure => simp [intOf]; omega
        · have HBt := Lib.hid (HB1.out he)
          have hne : ¬ (a.toNat : Int) = (a2.toNat : Int) := fun e => he (UInt8.toNat_inj.1 (by omega))
          have hq1 : ((a.toNat : Int) != (a2.toNat : Int)) = true := by simpa using hne
          have hq2 : ((a.toNat : Int) == (a2.toNat : Int)) = false := by simpa using hne
          clear HB1 HB2
          go_wp2_with fail
          go_quiet (fail)
          go_wp2
          go_ret
          exact ⟨by rw [HBt.out]; rfl, below_drewN hbw _⟩
      · obtain rfl : k = n := by omega
        have HR : Hid (res = true) := Lib.hid (HR2.out HB.out)
        go_wp2
        go_ret
        exact ⟨by rw [HR.out]; rfl, hbw⟩
  · have HR : Hid (decide (L = L2) = false) := Lib.hid (decide_eq_false fun e => hz (by rw [HNL.out, HNL2.out, e]))
    have hq : ((n : Int) == (n2 : Int)) = false := by simp; omega
    have hq2 : ((n : Int) != (n2 : Int)) = true := by simp; omega
    go_enter Tryd.func15, Tryd.ntmps15
    go_wp2
    go_ret
    exact ⟨by rw [HR.out]; rfl, Below.refl _ _⟩

set_option maxRecDepth 100000 in
set_option maxHeartbeats 8000000 in
theorem same_rev (A : Option Addr) (n c : Nat) (L : List Rv) (A2 : Option Addr) (n2 c2 : Nat) (L2 : List Rv) (w : World) (hr : RdR RV 6 w A n c L) (hr2 : RdR RV 6 w A2 n2 c2 L2) :
    Calls Tryd.prog 47 #[.slice A n c, .slice A2 n2 c2] w fun e w' => e = .returned (.bool (decide (L = L2))) ∧ Below w.heap.size w w' := by
  have hmax : n ≤ maxLen := Nat.le_trans hr.cap hr.max
  unfold maxLen at hmax
  have HNL := Lib.hid hr.len
  have HNL2 := Lib.hid hr2.len
  by_cases hz : n = n2
  · subst hz
    have HO := Lib.hid fun (h : 0 < n) => RdV.opened hr h
    have HO2 := Lib.hid fun (h : 0 < n) => RdV.opened hr2 h
    clear hr hr2
    have HR1 : Hid (∀ k, k < n → L.getD k rv0 ≠ L2.getD k rv0 → decide (L = L2) = false) := Lib.hid fun k hk h => by
      rw [decide_eq_false_iff_not]
      intro e
      exact h (by rw [e])
    have HR2 : Hid ((∀ k, k < n → L.getD k rv0 = L2.getD k rv0) → decide (L = L2) = true) := Lib.hid fun h => by
      rw [decide_eq_true_iff]
      apply List.ext_getElem (by rw [← HNL.out, ← HNL2.out])
      intro i h1 h2
      have := h i (by rw [HNL.out]; exact h1)
      simpa [List.getD, List.getElem?_eq_getElem h1, List.getElem?_eq_getElem h2] using this
    generalize decide (L = L2) = res at *
    go_enter Tryd.func47, Tryd.ntmps47
    go_wp2
    go_loopw [5] (fun v wr => ∃ k : Nat, k ≤ n ∧ v = .int .i64 k ∧ Below w.heap.size w wr ∧ Hid (∀ j, j < k → L.getD j rv0 = L2.getD j rv0)) (fun v _ => n - (intOf v).toNat)
    case atStart => exact ⟨0, Nat.zero_le _, rfl, Below.refl _ _, Lib.hid fun j h => by omega⟩
    case round =>
      obtain ⟨k, hk, rfl, hbw, HB⟩ := hrel
      by_cases hlt : k < n
      · obtain ⟨b, off, rfl, hb, hc⟩ := HO.out (by omega)
        obtain ⟨b2, off2, rfl, hb2, hc2⟩ := HO2.out (by omega)
        obtain ⟨x0, x1, x2, x3, x4, x5⟩ := hc k hlt
        obtain ⟨y0, y1, y2, y3, y4, y5⟩ := hc2 k hlt
        have c0 := (hbw.cell (p := ⟨b, off + k * 6, none⟩) hb).trans x0
        have c1 := (hbw.cell (p := ⟨b, off + k * 6 + 1, none⟩) hb).trans x1
        have c2 := (hbw.cell (p := ⟨b, off + k * 6 + 2, none⟩) hb).trans x2
        have c3 := (hbw.cell (p := ⟨b, off + k * 6 + 3, none⟩) hb).trans x3
        have c4 := (hbw.cell (p := ⟨b, off + k * 6 + 4, none⟩) hb).trans x4
        have c5 := (hbw.cell (p := ⟨b, off + k * 6 + 5, none⟩) hb).trans x5
        have d0 := (hbw.cell (p := ⟨b2, off2 + k * 6, none⟩) hb2).trans y0
        have d1 := (hbw.cell (p := ⟨b2, off2 + k * 6 + 1, none⟩) hb2).trans y1
        have d2 := (hbw.cell (p := ⟨b2, off2 + k * 6 + 2, none⟩) hb2).trans y2
        have d3 := (hbw.cell (p := ⟨b2, off2 + k * 6 + 3, none⟩) hb2).trans y3
        have d4 := (hbw.cell (p := ⟨b2, off2 + k * 6 + 4, none⟩) hb2).trans y4
        have d5 := (hbw.cell (p := ⟨b2, off2 + k * 6 + 5, none⟩) hb2).trans y5
        clear hc x0 x1 x2 x3 x4 x5 HO hc2 y0 y1 y2 y3 y4 y5 HO2
        have z0 : (0 : Int) ≤ (k : Int) := by omega
        have z1 : (k : Int) < (n : Int) := by omega
        have HB1 := Lib.hid (HR1.out k hlt)
        have HB2 : Hid (L.getD k rv0 = L2.getD k rv0 → ∀ j, j < k + 1 → L.getD j rv0 = L2.getD j rv0) := Lib.hid fun h j hj => by
          rcases Nat.lt_or_ge j k with h1 | h1
          · exact HB.out j h1
          · obtain rfl : j = k := by omega
            exact h
        generalize L.getD k rv0 = a at *
        generalize L2.getD k rv0 = a2 at *
        obtain ⟨anum, aus, ant, atx, ami, asq⟩ := a
        obtain ⟨bnum, bus, bnt, btx, bmi, bsq⟩ := a2
        have hq := fun W => run_neq_rev anum aus ant atx ami asq bnum bus bnt btx bmi bsq W
        have hgt := rev_guard
        by_cases he : (⟨anum, aus, ant, atx, ami, asq⟩ : Rv) = ⟨bnum, bus, bnt, btx, bmi, bsq⟩
        · have HBt := Lib.hid (HB2.out he)
          rw [decide_eq_true he] at hq
          clear HB1 HB2 he
          go_wp2_with fail
          go_quiet (fail)
          go_wp2
          go_roundw
          case rel => exact ⟨k + 1, by omega, by go_num, below_drewN hbw _, HBt⟩
          case measure => simp [intOf]; omega
        · have HBt := Lib.hid (HB1.out he)
          rw [decide_eq_false he] at hq
          clear HB1 HB2 he
          go_wp2_with fail
          go_quiet (fail)
          go_wp2
          go_ret
          exact ⟨by rw [HBt.out]; rfl, below_drewN hbw _⟩
      · obtain rfl : k = n := by omega
        have HR : Hid (res = true) := Lib.hid (HR2.out HB.out)
        go_wp2
        go_ret
        exact ⟨by rw [HR.out]; rfl, hbw⟩
  · have HR : Hid (decide (L = L2) = false) := Lib.hid (decide_eq_false fun e => hz (by rw [HNL.out, HNL2.out, e]))
    have hq : ((n : Int) == (n2 : Int)) = false := by simp; omega
    have hq2 : ((n : Int) != (n2 : Int)) = true := by simp; omega
    go_enter Tryd.func47, Tryd.ntmps47
    go_wp2
    go_ret
    exact ⟨by rw [HR.out]; rfl, Below.refl _ _⟩

theorem cg_dec (a b : Cg) : decide (a = b) = (decide (a.kd = b.kd) && decide (a.us = b.us) && decide (a.nt = b.nt) && (decide (a.ts = b.ts) && decide (a.tn = b.tn)) && (decide (a.os = b.os) && decide (a.on = b.on)) && decide (a.tx = b.tx) && decide (a.n = b.n) && decide (a.hs = b.hs)) := by
  obtain ⟨a0, a1, a2, a3, a4, a5, a6, a7, a8, a9⟩ := a
  obtain ⟨b0, b1, b2, b3, b4, b5, b6, b7, b8, b9⟩ := b
  simp only [Cg.mk.injEq]
  by_cases h0 : a0 = b0 <;> by_cases h1 : a1 = b1 <;> by_cases h2 : a2 = b2 <;> by_cases h3 : a3 = b3 <;> by_cases h4 : a4 = b4 <;> by_cases h5 : a5 = b5 <;> by_cases h6 : a6 = b6 <;> by_cases h7 : a7 = b7 <;> by_cases h8 : a8 = b8 <;> simp [*]

set_option maxRecDepth 100000 in
set_option maxHeartbeats 16000000 in
theorem samechange_any (a b : Cg) (A : Option Addr) (n c : Nat) (A2 : Option Addr) (n2 c2 : Nat) (w : World) (hr : RdR RV 6 w A n c a.hs) (hr2 : RdR RV 6 w A2 n2 c2 b.hs) :
    Calls Tryd.prog 29 #[cval a A n c, cval b A2 n2 c2] w fun e w' => e = .returned (.bool (decide (a = b))) ∧ Below w.heap.size w w' := by
  have HSR := Lib.hid fun W (hW : Below w.heap.size w W) => same_rev A n c a.hs A2 n2 c2 b.hs W (RdV.below hr hW) (RdV.below hr2 hW)
  clear hr hr2
  rw [cg_dec]
  obtain ⟨akd, aus, ant, ats, atn, aos, aon, atx, az, ahs⟩ := a
  obtain ⟨bkd, bus, bnt, bts, btn, bos, bon, btx, bz, bhs⟩ := b
  unfold cval
  simp only [] at HSR ⊢
  generalize decide (ahs = bhs) = rh at *
  have ht1 := fun W => run_eql_tit ats atn bts btn W
  have ht2 := fun W => run_eql_tit aos aon bos bon W
  have hgt := tit_guard
  have hub : ∀ b : Bool, (some undef = some (Value.bool b)) = False := fun b => by simp [undef]
  have hub2 : ∀ b : Bool, (undef = Value.bool b) = False := fun b => by simp [undef]
  generalize hd3 : (decide (ats = bts) && decide (atn = btn)) = r3 at *
  generalize hd4 : (decide (aos = bos) && decide (aon = bon)) = r4 at *
  clear hd3 hd4
  have hs1 := str_beq aus bus
  have hs2 := str_beq ant bnt
  have hs7 := str_beq atx btx
  have hs0 : (akd == bkd) = decide (akd = bkd) := by by_cases h : akd = bkd <;> simp [h]
  have hs8 : (az == bz) = decide (az = bz) := by by_cases h : az = bz <;> simp [h]
  generalize hr0 : decide (akd = bkd) = r0 at *
  generalize hr1 : decide (aus = bus) = r1 at *
  generalize hr2 : decide (ant = bnt) = r2 at *
  generalize hr7 : decide (atx = btx) = r7 at *
  generalize hr8 : decide (az = bz) = r8 at *
  have HK : Hid (r0 = decide (akd = bkd) ∧ r8 = decide (az = bz) ∧ r1 = decide (aus = bus) ∧ r2 = decide (ant = bnt) ∧ r7 = decide (atx = btx)) := Lib.hid ⟨hr0.symm, hr8.symm, hr1.symm, hr2.symm, hr7.symm⟩
  clear hr0 hr1 hr2 hr7 hr8
  cases r0 with
  | false =>
    go_enter Tryd.func29, Tryd.ntmps29
    go_wp2_with fail
    go_ret
    exact ⟨by rfl, by (refine bel_out ?_; (focus (repeat' first | (with_reducible refine bel_refl ?_) | with_reducible assumption | with_reducible refine bel_drew ?_ | with_reducible refine bel_drewN _ ?_ | with_reducible refine bel_alloc _ ?_ | with_reducible refine bel_set ?_ _ ?_ | (with_reducible apply bel_call; with_reducible assumption) | (with_reducible apply bel_owg; with_reducible assumption; (focus omega)) | with_reducible exact Nat.le_refl _ | omega | (simp; done) | (simp; omega))))⟩
  | true =>
    cases r1 with
    | false =>
      go_enter Tryd.func29, Tryd.ntmps29
      go_wp2_with fail
      go_ret
      exact ⟨by rfl, by (refine bel_out ?_; (focus (repeat' first | (with_reducible refine bel_refl ?_) | with_reducible assumption | with_reducible refine bel_drew ?_ | with_reducible refine bel_drewN _ ?_ | with_reducible refine bel_alloc _ ?_ | with_reducible refine bel_set ?_ _ ?_ | (with_reducible apply bel_call; with_reducible assumption) | (with_reducible apply bel_owg; with_reducible assumption; (focus omega)) | with_reducible exact Nat.le_refl _ | omega | (simp; done) | (simp; omega))))⟩
    | true =>
      cases r2 with
      | false =>
        go_enter Tryd.func29, Tryd.ntmps29
        go_wp2_with fail
        go_ret
        exact ⟨by rfl, by (refine bel_out ?_; (focus (repeat' first | (with_reducible refine bel_refl ?_) | with_reducible assumption | with_reducible refine bel_drew ?_ | with_reducible refine bel_drewN _ ?_ | with_reducible refine bel_alloc _ ?_ | with_reducible refine bel_set ?_ _ ?_ | (with_reducible apply bel_call; with_reducible assumption) | (with_reducible apply bel_owg; with_reducible assumption; (focus omega)) | with_reducible exact Nat.le_refl _ | omega | (simp; done) | (simp; omega))))⟩
      | true =>
        cases r3 with
        | false =>
          go_enter Tryd.func29, Tryd.ntmps29
          go_wp2_with fail
          go_ret
          exact ⟨by rfl, by (refine bel_out ?_; (focus (repeat' first | (with_reducible refine bel_refl ?_) | with_reducible assumption | with_reducible refine bel_drew ?_ | with_reducible refine bel_drewN _ ?_ | with_reducible refine bel_alloc _ ?_ | with_reducible refine bel_set ?_ _ ?_ | (with_reducible apply bel_call; with_reducible assumption) | (with_reducible apply bel_owg; with_reducible assumption; (focus omega)) | with_reducible exact Nat.le_refl _ | omega | (simp; done) | (simp; omega))))⟩
        | true =>
          cases r4 with
          | false =>
            go_enter Tryd.func29, Tryd.ntmps29
            go_wp2_with fail
            go_ret
            exact ⟨by rfl, by (refine bel_out ?_; (focus (repeat' first | (with_reducible refine bel_refl ?_) | with_reducible assumption | with_reducible refine bel_drew ?_ | with_reducible refine bel_drewN _ ?_ | with_reducible refine bel_alloc _ ?_ | with_reducible refine bel_set ?_ _ ?_ | (with_reducible apply bel_call; with_reducible assumption) | (with_reducible apply bel_owg; with_reducible assumption; (focus omega)) | with_reducible exact Nat.le_refl _ | omega | (simp; done) | (simp; omega))))⟩
          | true =>
            cases r7 with
            | false =>
              go_enter Tryd.func29, Tryd.ntmps29
              go_wp2_with fail
              go_ret
              exact ⟨by rfl, by (refine bel_out ?_; (focus (repeat' first | (with_reducible refine bel_refl ?_) | with_reducible assumption | with_reducible refine bel_drew ?_ | with_reducible refine bel_drewN _ ?_ | with_reducible refine bel_alloc _ ?_ | with_reducible refine bel_set ?_ _ ?_ | (with_reducible apply bel_call; with_reducible assumption) | (with_reducible apply bel_owg; with_reducible assumption; (focus omega)) | with_reducible exact Nat.le_refl _ | omega | (simp; done) | (simp; omega))))⟩
            | true =>
              cases r8 with
              | false =>
                go_enter Tryd.func29, Tryd.ntmps29
                go_wp2_with fail
                go_ret
                exact ⟨by rfl, by (refine bel_out ?_; (focus (repeat' first | (with_reducible refine bel_refl ?_) | with_reducible assumption | with_reducible refine bel_drew ?_ | with_reducible refine bel_drewN _ ?_ | with_reducible refine bel_alloc _ ?_ | with_reducible refine bel_set ?_ _ ?_ | (with_reducible apply bel_call; with_reducible assumption) | (with_reducible apply bel_owg; with_reducible assumption; (focus omega)) | with_reducible exact Nat.le_refl _ | omega | (simp; done) | (simp; omega))))⟩
              | true =>
                go_enter Tryd.func29, Tryd.ntmps29
                go_wp2_with (go_at_call 47; go_must (refine (HSR.out _ ?_).mono ?_; (focus (refine bel_out ?_; (focus (repeat' first | (with_reducible refine bel_refl ?_) | with_reducible assumption | with_reducible refine bel_drew ?_ | with_reducible refine bel_drewN _ ?_ | with_reducible refine bel_alloc _ ?_ | with_reducible refine bel_set ?_ _ ?_ | (with_reducible apply bel_call; with_reducible assumption) | (with_reducible apply bel_owg; with_reducible assumption; (focus omega)) | with_reducible exact Nat.le_refl _ | omega | (simp; done) | (simp; omega))))); rintro e w2 ⟨rfl, hb2⟩))
                go_ret
                exact ⟨by cases rh <;> rfl, by (refine bel_out ?_; (focus (repeat' first | (with_reducible refine bel_refl ?_) | with_reducible assumption | with_reducible refine bel_drew ?_ | with_reducible refine bel_drewN _ ?_ | with_reducible refine bel_alloc _ ?_ | with_reducible refine bel_set ?_ _ ?_ | (with_reducible apply bel_call; with_reducible assumption) | (with_reducible apply bel_owg; with_reducible assumption; (focus omega)) | with_reducible exact Nat.le_refl _ | omega | (simp; done) | (simp; omega))))⟩

set_option maxRecDepth 100000 in
set_option maxHeartbeats 8000000 in
theorem samechanges_any (A : Option Addr) (n c : Nat) (L : List Cg) (A2 : Option Addr) (n2 c2 : Nat) (L2 : List Cg) (w : World) (hr : RdR RC 10 w A n c L) (hr2 : RdR RC 10 w A2 n2 c2 L2) :
    Calls Tryd.prog 16 #[.slice A n c, .slice A2 n2 c2] w fun e w' => e = .returned (.bool (decide (L = L2))) ∧ Below w.heap.size w w' := by
  have hmax : n ≤ maxLen := Nat.le_trans hr.cap hr.max
  unfold maxLen at hmax
  have HNL := Lib.hid hr.len
  have HNL2 := Lib.hid hr2.len
  by_cases hz : n = n2
  · subst hz
    have HO := Lib.hid fun (h : 0 < n) => RdC.opened hr h
    have HO2 := Lib.hid fun (h : 0 < n) => RdC.opened hr2 h
    clear hr hr2
    have HR1 : Hid (∀ k, k < n → L.getD k cg0 ≠ L2.getD k cg0 → decide (L = L2) = false) := Lib.hid fun k hk h => by
      rw [decide_eq_false_iff_not]
      intro e
      exact h (by rw [e])
    have HR2 : Hid ((∀ k, k < n → L.getD k cg0 = L2.getD k cg0) → decide (L = L2) = true) := Lib.hid fun h => by
      rw [decide_eq_true_iff]
      apply List.ext_getElem (by rw [← HNL.out, ← HNL2.out])
      intro i h1 h2
      have := h i (by rw [HNL.out]; exact h1)
      simpa [List.getD, List.getElem?_eq_getElem h1, List.getElem?_eq_getElem h2] using this
    generalize decide (L = L2) = res at *
    go_enter Tryd.func16, Tryd.ntmps16
    go_wp2
    go_loopw [5] (fun v wr => ∃ k : Nat, k ≤ n ∧ v = .int .i64 k ∧ Below w.heap.size w wr ∧ Hid (∀ j, j < k → L.getD j cg0 = L2.getD j cg0)) (fun v _ => n - (intOf v).toNat)
    case atStart => exact ⟨0, Nat.zero_le _, rfl, Below.refl _ _, Lib.hid fun j h => by omega⟩
    case round =>
      obtain ⟨k, hk, rfl, hbw, HB⟩ := hrel
      by_cases hlt : k < n
      · obtain ⟨b, off, rfl, hb, hc⟩ := HO.out (by omega)
        obtain ⟨b2, off2, rfl, hb2, hc2⟩ := HO2.out (by omega)
        obtain ⟨Ah, nh, ch, x0, x1, x2, x3, x4, x5, x6, x7, x8, x9, hrd⟩ := hc k hlt
        obtain ⟨Bh, mh, dh, y0, y1, y2, y3, y4, y5, y6, y7, y8, y9, hre⟩ := hc2 k hlt
        have c0 := (hbw.cell (p := ⟨b, off + k * 10, none⟩) hb).trans x0
        have c1 := (hbw.cell (p := ⟨b, off + k * 10 + 1, none⟩) hb).trans x1
        have c2 := (hbw.cell (p := ⟨b, off + k * 10 + 2, none⟩) hb).trans x2
        have c3 := (hbw.cell (p := ⟨b, off + k * 10 + 3, none⟩) hb).trans x3
        have c4 := (hbw.cell (p := ⟨b, off + k * 10 + 4, none⟩) hb).trans x4
        have c5 := (hbw.cell (p := ⟨b, off + k * 10 + 5, none⟩) hb).trans x5
        have c6 := (hbw.cell (p := ⟨b, off + k * 10 + 6, none⟩) hb).trans x6
        have c7 := (hbw.cell (p := ⟨b, off + k * 10 + 7, none⟩) hb).trans x7
        have c8 := (hbw.cell (p := ⟨b, off + k * 10 + 8, none⟩) hb).trans x8
        have c9 := (hbw.cell (p := ⟨b, off + k * 10 + 9, none⟩) hb).trans x9
        have d0 := (hbw.cell (p := ⟨b2, off2 + k * 10, none⟩) hb2).trans y0
        have d1 := (hbw.cell (p := ⟨b2, off2 + k * 10 + 1, none⟩) hb2).trans y1
        have d2 := (hbw.cell (p := ⟨b2, off2 + k * 10 + 2, none⟩) hb2).trans y2
        have d3 := (hbw.cell (p := ⟨b2, off2 + k * 10 + 3, none⟩) hb2).trans y3
        have d4 := (hbw.cell (p := ⟨b2, off2 + k * 10 + 4, none⟩) hb2).trans y4
        have d5 := (hbw.cell (p := ⟨b2, off2 + k * 10 + 5, none⟩) hb2).trans y5
        have d6 := (hbw.cell (p := ⟨b2, off2 + k * 10 + 6, none⟩) hb2).trans y6
        have d7 := (hbw.cell (p := ⟨b2, off2 + k * 10 + 7, none⟩) hb2).trans y7
        have d8 := (hbw.cell (p := ⟨b2, off2 + k * 10 + 8, none⟩) hb2).trans y8
        have d9 := (hbw.cell (p := ⟨b2, off2 + k * 10 + 9, none⟩) hb2).trans y9
        have HSC := Lib.hid fun W (hW : Below w.heap.size w W) => samechange_any (L.getD k cg0) (L2.getD k cg0) Ah nh ch Bh mh dh W (RdV.below hrd hW) (RdV.below hre hW)
        clear hc HO hc2 HO2 hrd hre x0 x1 x2 x3 x4 x5 x6 x7 x8 x9 y0 y1 y2 y3 y4 y5 y6 y7 y8 y9
        have z0 : (0 : Int) ≤ (k : Int) := by omega
        have z1 : (k : Int) < (n : Int) := by omega
        have HB1 := Lib.hid (HR1.out k hlt)
        have HB2 : Hid (L.getD k cg0 = L2.getD k cg0 → ∀ j, j < k + 1 → L.getD j cg0 = L2.getD j cg0) := Lib.hid fun h j hj => by
          rcases Nat.lt_or_ge j k with h1 | h1
          · exact HB.out j h1
          · obtain rfl : j = k := by omega
            exact h
        generalize L.getD k cg0 = a at *
        generalize L2.getD k cg0 = a2 at *
        by_cases he : a = a2
        · have HBt := Lib.hid (HB2.out he)
          rw [decide_eq_true he] at HSC
          clear HB1 HB2 he
          unfold cval at HSC
          obtain ⟨akd, aus, ant, ats, atn, aos, aon, atx, az, ahs⟩ := a
          obtain ⟨bkd, bus, bnt, bts, btn, bos, bon, btx, bz, bhs⟩ := a2
          simp only [] at c0 c1 c2 c3 c4 c5 c6 c7 c8 c9 d0 d1 d2 d3 d4 d5 d6 d7 d8 d9 HSC
          go_wp2_with fail
          go_region_with (first | (go_at_call 29; ((with_reducible refine (HSC.out _ ?_).mono ?_); (focus (refine bel_out ?_; (focus (repeat' first | (with_reducible refine bel_refl ?_) | with_reducible assumption | with_reducible refine bel_drew ?_ | with_reducible refine bel_drewN _ ?_ | with_reducible refine bel_alloc _ ?_ | with_reducible refine bel_set ?_ _ ?_ | (with_reducible apply bel_call; with_reducible assumption) | (with_reducible apply bel_owg; with_reducible assumption; (focus omega)) | with_reducible exact Nat.le_refl _ | omega | (simp; done) | (simp; omega))))); rintro e w3 ⟨rfl, hb3⟩)))
          all_goals
            go_wp2
            go_roundw
            case rel => exact ⟨k + 1, by omega, by go_num, by (refine bel_out ?_; (focus (repeat' first | (with_reducible refine bel_refl ?_) | with_reducible assumption | with_reducible refine bel_drew ?_ | with_reducible refine bel_drewN _ ?_ | with_reducible refine bel_alloc _ ?_ | with_reducible refine bel_set ?_ _ ?_ | (with_reducible apply bel_call; with_reducible assumption) | (with_reducible apply bel_owg; with_reducible assumption; (focus omega)) | with_reducible exact Nat.le_refl _ | omega | (simp; done) | (simp; omega)))), HBt⟩
            case measure => simp [intOf]; omega
        · have HBt := Lib.hid (HB1.out he)
          rw [decide_eq_false he] at HSC
          clear HB1 HB2 he
          unfold cval at HSC
          obtain ⟨akd, aus, ant, ats, atn, aos, aon, atx, az, ahs⟩ := a
          obtain ⟨bkd, bus, bnt, bts, btn, bos, bon, btx, bz, bhs⟩ := a2
          simp only [] at c0 c1 c2 c3 c4 c5 c6 c7 c8 c9 d0 d1 d2 d3 d4 d5 d6 d7 d8 d9 HSC
          go_wp2_with fail
          go_region_with (first | (go_at_call 29; ((with_reducible refine (HSC.out _ ?_).mono ?_); (focus (refine bel_out ?_; (focus (repeat' first | (with_reducible refine bel_refl ?_) | with_reducible assumption | with_reducible refine bel_drew ?_ | with_reducible refine bel_drewN _ ?_ | with_reducible refine bel_alloc _ ?_ | with_reducible refine bel_set ?_ _ ?_ | (with_reducible apply bel_call; with_reducible assumption) | (with_reducible apply bel_owg; with_reducible assumption; (focus omega)) | with_reducible exact Nat.le_refl _ | omega | (simp; done) | (simp; omega))))); rintro e w3 ⟨rfl, hb3⟩)))
          all_goals
            go_wp2
            go_ret
            exact ⟨by rw [HBt.out]; rfl, by (refine bel_out ?_; (focus (repeat' first | (with_reducible refine bel_refl ?_) | with_reducible assumption | with_reducible refine bel_drew ?_ | with_reducible refine bel_drewN _ ?_ | with_reducible refine bel_alloc _ ?_ | with_reducible refine bel_set ?_ _ ?_ | (with_reducible apply bel_call; with_reducible assumption) | (with_reducible apply bel_owg; with_reducible assumption; (focus omega)) | with_reducible exact Nat.le_refl _ | omega | (simp; done) | (simp; omega))))⟩
      · obtain rfl : k = n := by omega
        have HR : Hid (res = true) := Lib.hid (HR2.out HB.out)
        go_wp2
        go_ret
        exact ⟨by rw [HR.out]; rfl, hbw⟩
  · have HR : Hid (decide (L = L2) = false) := Lib.hid (decide_eq_false fun e => hz (by rw [HNL.out, HNL2.out, e]))
    have hq : ((n : Int) == (n2 : Int)) = false := by simp; omega
    have hq2 : ((n : Int) != (n2 : Int)) = true := by simp; omega
    go_enter Tryd.func16, Tryd.ntmps16
    go_wp2
    go_ret
    exact ⟨by rw [HR.out]; rfl, Below.refl _ _⟩
end Go.Proofs.YtbeijpajodgpeaaDoor
