/- The walk of change.ranged. Printed by gen_c5.py -/
import Derived.Test.YtbeijpajodgpeaaDoorC4
import Derived.Test.YtbeijpajodgpeaaDoorMQ
import Derived.Test.YtbeijpajodgpeaaDoorWords3
import Derived.Deep.DeepCutAuto
import Derived.Deep.CutBlock
namespace Go.Proofs.YtbeijpajodgpeaaDoor
open Go.RowKit
set_option linter.unusedSimpArgs false
set_option linter.unusedVariables false

/-- the cell of a package variable that the library reads -/
def Hm (m : Int) (w : World) : Prop := w.cell? ⟨0, 0, none⟩ = some (.int .i64 m) ∧ 0 < w.heap.size
theorem Hm.below {m : Int} {w w' : World} (h : Hm m w) (hb : Below w.heap.size w w') : Hm m w' := ⟨(hb.cell (p := ⟨0, 0, none⟩) h.2).trans h.1, Nat.lt_of_lt_of_le h.2 hb.size⟩
/-- title and user are valid -/
def rA (kd : Int) (us : ByteArray) (ts : Int) (tn : ByteArray) (os : Int) (on : ByteArray) : Bool := (!fT kd || tv ts tn) && (!fO kd || tv os on) && isUs us
theorem rng_eq (c : Cg) : rng c = (((rA c.kd c.us c.ts c.tn c.os c.on && (!decide (c.kd = 7 ∨ c.kd = 8) || !decide (c.us.size = 0))) && (!fK c.kd || decide (loB c.kd ≤ c.n ∧ c.n ≤ hiB c.kd))) && (!fH c.kd || hst c.hs)) := rfl
theorem str_e {x : ByteArray} (h : x.size = 0) : x.toList = [] ∧ x.toList.isEmpty = true ∧ (x.toList == []) = true := by
  have e : x.toList = [] := by rw [ByteArray.toList_eq, ba_nil h]
  exact ⟨e, by rw [e]; rfl, by rw [e]; rfl⟩
theorem fO_fT {k : Int} (h : fO k = true) : fT k = true := by
  have : k = 4 := of_decide_eq_true h
  subst this; rfl
set_option maxRecDepth 100000 in
set_option maxHeartbeats 16000000 in
theorem ranged_any (c : Cg) (A : Option Addr) (n cp : Nat) (x : Int) (w : World) (h : RdR RV 6 w A n cp c.hs) (hwf : ∀ r ∈ c.hs, RvWf r) (hx : Hm x w) (hk : 1 ≤ c.kd ∧ c.kd ≤ 10) :
    Calls Tryd.prog 32 #[cval c A n cp, usesF c.kd] w fun e w' => e = .returned (.bool (rng c)) ∧ Below w.heap.size w w' := by
  have HT := Lib.hid fun (xx : Int) (s : ByteArray) (W : World) (hW : Below w.heap.size w W) => title_any xx s x W (hx.below hW).1 (hx.below hW).2
  have HU := Lib.hid isuser_any
  have HB := Lib.hid bounds_any
  have HH := Lib.hid fun (W : World) (hW : Below w.heap.size w W) => history_any A n cp c.hs W (RdV.below h hW) hwf
  have HR := Lib.hid (rng_eq c)
  clear h hwf hx
  obtain ⟨kd, us, nt, ts, tn, os, on, tx, z, hs⟩ := c
  simp only [] at HH HR hk
  generalize rng ⟨kd, us, nt, ts, tn, os, on, tx, z, hs⟩ = R at *
  have HK := Lib.hid hk
  clear hk
  unfold cval usesF
  simp only []
  have HA : Hid (rA kd us ts tn os on = ((!fT kd || tv ts tn) && (!fO kd || tv os on) && isUs us)) := Lib.hid rfl
  have HFO := Lib.hid (@fO_fT kd)
  generalize rA kd us ts tn os on = ra at *
  obtain ⟨bU, hU⟩ : ∃ b, b = fU kd := ⟨_, rfl⟩
  obtain ⟨bN, hN⟩ : ∃ b, b = fN kd := ⟨_, rfl⟩
  obtain ⟨bT, hT⟩ : ∃ b, b = fT kd := ⟨_, rfl⟩
  obtain ⟨bO, hO⟩ : ∃ b, b = fO kd := ⟨_, rfl⟩
  obtain ⟨bK, hK⟩ : ∃ b, b = fK kd := ⟨_, rfl⟩
  obtain ⟨bH, hH⟩ : ∃ b, b = fH kd := ⟨_, rfl⟩
  rw [← hU, ← hN, ← hT, ← hO, ← hK, ← hH]
  rw [← hT, ← hO] at HA HFO
  rw [← hK, ← hH] at HR
  have GK := Lib.hid hK
  have GH := Lib.hid hH
  clear hU hN hT hO hK hH
  go_enter Tryd.func32, Tryd.ntmps32
  go_upto_region 1 with fail
  have kb1 : ((w.alloc (.cells #[.int .i64 kd, .string us, .string nt, .int .i64 ts, .string tn, .int .i64 os, .string on, .string tx, .int .i64 z, .slice A n cp] 31)).alloc (.cells #[.bool bU, .bool bN, .bool bT, .bool bO, .bool bN, .bool bK, .bool bH] 72)).heap[w.heap.size]? = some (.cells #[.int .i64 kd, .string us, .string nt, .int .i64 ts, .string tn, .int .i64 os, .string on, .string tx, .int .i64 z, .slice A n cp] 31 (0, 0)) := heap_old (heap_new rfl)
  have kb2 : ((w.alloc (.cells #[.int .i64 kd, .string us, .string nt, .int .i64 ts, .string tn, .int .i64 os, .string on, .string tx, .int .i64 z, .slice A n cp] 31)).alloc (.cells #[.bool bU, .bool bN, .bool bT, .bool bO, .bool bN, .bool bK, .bool bH] 72)).heap[w.heap.size + 1]? = some (.cells #[.bool bU, .bool bN, .bool bT, .bool bO, .bool bN, .bool bK, .bool bH] 72 (0, 0)) := heap_new (by rw [size_alloc_])
  have hb0 : Below w.heap.size w ((w.alloc (.cells #[.int .i64 kd, .string us, .string nt, .int .i64 ts, .string tn, .int .i64 os, .string on, .string tx, .int .i64 z, .slice A n cp] 31)).alloc (.cells #[.bool bU, .bool bN, .bool bT, .bool bO, .bool bN, .bool bK, .bool bH] 72)) := ((Below.refl _ _).alloc (Nat.le_refl _) _).alloc (by rw [size_alloc_]; omega) _
  generalize (w.alloc (.cells #[.int .i64 kd, .string us, .string nt, .int .i64 ts, .string tn, .int .i64 os, .string on, .string tx, .int .i64 z, .slice A n cp] 31)).alloc (.cells #[.bool bU, .bool bN, .bool bT, .bool bO, .bool bN, .bool bK, .bool bH] 72) = w0 at *
  go_cut [30] (fun v wx => v = .bool (!ra) ∧ Below w0.heap.size w0 wx)
  case first =>
    have kc1 := Blk.cell kb1
    have kc2 := Blk.cell kb2
    have hub : ∀ b : Bool, (some undef = some (Value.bool b)) = False := fun b => by simp [undef]
    have hub2 : ∀ b : Bool, (undef = Value.bool b) = False := fun b => by simp [undef]
    clear HH HB HR HK GK GH
    have HT1 := Lib.hid (HT.out ts tn)
    have HT2 := Lib.hid (HT.out os on)
    generalize tv ts tn = b1 at *
    generalize tv os on = b2 at *
    generalize hg : isUs us = b3 at *
    have HUs : Hid (∀ W : World, Calls Tryd.prog 49 #[.string us] W fun e w' => e = .returned (.bool b3) ∧ W = w') := Lib.hid fun W => (HU.out us W).mono fun e w' h => ⟨by rw [h.1, hg], h.2⟩
    clear HT HU hg
    cases bT with
    | false =>
      have hbo : bO = false := by
        cases bO with
        | false => rfl
        | true => exact absurd (HFO.out rfl) (by decide)
      subst hbo
      cases b3 with
      | true =>
        have HV := Lib.hid HA.out
        clear HA HFO
        go_wp2_with (first
          | (go_at_call 49; go_must (refine (HUs.out _).mono ?_; rintro e wu ⟨rfl, rfl⟩)))
        go_meet
        exact ⟨by rw [HV.out]; rfl, by (refine bel_out ?_; (focus (repeat' first | (with_reducible refine bel_refl ?_) | with_reducible assumption | with_reducible refine bel_drew ?_ | with_reducible refine bel_drewN _ ?_ | with_reducible refine bel_alloc _ ?_ | with_reducible refine bel_set ?_ _ ?_ | (with_reducible apply bel_call; with_reducible assumption) | (with_reducible apply bel_owg; with_reducible assumption; (focus omega)) | with_reducible exact Nat.le_refl _ | omega | (simp; done) | (simp; omega))))⟩
      | false =>
        have HV := Lib.hid HA.out
        clear HA HFO
        go_wp2_with (first
          | (go_at_call 49; go_must (refine (HUs.out _).mono ?_; rintro e wu ⟨rfl, rfl⟩)))
        go_meet
        exact ⟨by rw [HV.out]; rfl, by (refine bel_out ?_; (focus (repeat' first | (with_reducible refine bel_refl ?_) | with_reducible assumption | with_reducible refine bel_drew ?_ | with_reducible refine bel_drewN _ ?_ | with_reducible refine bel_alloc _ ?_ | with_reducible refine bel_set ?_ _ ?_ | (with_reducible apply bel_call; with_reducible assumption) | (with_reducible apply bel_owg; with_reducible assumption; (focus omega)) | with_reducible exact Nat.le_refl _ | omega | (simp; done) | (simp; omega))))⟩
    | true =>
      cases b1 with
      | false =>
        have HV := Lib.hid HA.out
        clear HA HFO
        go_wp2_with (first
          | (go_at_call 48; ((with_reducible refine (HT1.out _ ?_).mono ?_); (focus (refine bel_out ?_; (focus (repeat' first | (with_reducible refine bel_refl ?_) | with_reducible assumption | with_reducible refine bel_drew ?_ | with_reducible refine bel_drewN _ ?_ | with_reducible refine bel_alloc _ ?_ | with_reducible refine bel_set ?_ _ ?_ | (with_reducible apply bel_call; with_reducible assumption) | (with_reducible apply bel_owg; with_reducible assumption; (focus omega)) | with_reducible exact Nat.le_refl _ | omega | (simp; done) | (simp; omega))))); rintro e wv1 ⟨rfl, hv1⟩; (have kv1a := heap_call hv1 kb1); (have kv1b := heap_call hv1 kb2); (have kw1a := Blk.cell kv1a); (have kw1b := Blk.cell kv1b))))
        go_meet
        exact ⟨by rw [HV.out]; rfl, by (refine bel_out ?_; (focus (repeat' first | (with_reducible refine bel_refl ?_) | with_reducible assumption | with_reducible refine bel_drew ?_ | with_reducible refine bel_drewN _ ?_ | with_reducible refine bel_alloc _ ?_ | with_reducible refine bel_set ?_ _ ?_ | (with_reducible apply bel_call; with_reducible assumption) | (with_reducible apply bel_owg; with_reducible assumption; (focus omega)) | with_reducible exact Nat.le_refl _ | omega | (simp; done) | (simp; omega))))⟩
      | true =>
        cases bO with
        | false =>
          cases b3 with
          | true =>
            have HV := Lib.hid HA.out
            clear HA HFO
            go_wp2_with (first
              | (go_at_call 48; ((with_reducible refine (HT1.out _ ?_).mono ?_); (focus (refine bel_out ?_; (focus (repeat' first | (with_reducible refine bel_refl ?_) | with_reducible assumption | with_reducible refine bel_drew ?_ | with_reducible refine bel_drewN _ ?_ | with_reducible refine bel_alloc _ ?_ | with_reducible refine bel_set ?_ _ ?_ | (with_reducible apply bel_call; with_reducible assumption) | (with_reducible apply bel_owg; with_reducible assumption; (focus omega)) | with_reducible exact Nat.le_refl _ | omega | (simp; done) | (simp; omega))))); rintro e wv1 ⟨rfl, hv1⟩; (have kv1a := heap_call hv1 kb1); (have kv1b := heap_call hv1 kb2); (have kw1a := Blk.cell kv1a); (have kw1b := Blk.cell kv1b)))
              | (go_at_call 49; go_must (refine (HUs.out _).mono ?_; rintro e wu ⟨rfl, rfl⟩)))
            go_meet
            exact ⟨by rw [HV.out]; rfl, by (refine bel_out ?_; (focus (repeat' first | (with_reducible refine bel_refl ?_) | with_reducible assumption | with_reducible refine bel_drew ?_ | with_reducible refine bel_drewN _ ?_ | with_reducible refine bel_alloc _ ?_ | with_reducible refine bel_set ?_ _ ?_ | (with_reducible apply bel_call; with_reducible assumption) | (with_reducible apply bel_owg; with_reducible assumption; (focus omega)) | with_reducible exact Nat.le_refl _ | omega | (simp; done) | (simp; omega))))⟩
          | false =>
            have HV := Lib.hid HA.out
            clear HA HFO
            go_wp2_with (first
              | (go_at_call 48; ((with_reducible refine (HT1.out _ ?_).mono ?_); (focus (refine bel_out ?_; (focus (repeat' first | (with_reducible refine bel_refl ?_) | with_reducible assumption | with_reducible refine bel_drew ?_ | with_reducible refine bel_drewN _ ?_ | with_reducible refine bel_alloc _ ?_ | with_reducible refine bel_set ?_ _ ?_ | (with_reducible apply bel_call; with_reducible assumption) | (with_reducible apply bel_owg; with_reducible assumption; (focus omega)) | with_reducible exact Nat.le_refl _ | omega | (simp; done) | (simp; omega))))); rintro e wv1 ⟨rfl, hv1⟩; (have kv1a := heap_call hv1 kb1); (have kv1b := heap_call hv1 kb2); (have kw1a := Blk.cell kv1a); (have kw1b := Blk.cell kv1b)))
              | (go_at_call 49; go_must (refine (HUs.out _).mono ?_; rintro e wu ⟨rfl, rfl⟩)))
            go_meet
            exact ⟨by rw [HV.out]; rfl, by (refine bel_out ?_; (focus (repeat' first | (with_reducible refine bel_refl ?_) | with_reducible assumption | with_reducible refine bel_drew ?_ | with_reducible refine bel_drewN _ ?_ | with_reducible refine bel_alloc _ ?_ | with_reducible refine bel_set ?_ _ ?_ | (with_reducible apply bel_call; with_reducible assumption) | (with_reducible apply bel_owg; with_reducible assumption; (focus omega)) | with_reducible exact Nat.le_refl _ | omega | (simp; done) | (simp; omega))))⟩
        | true =>
          cases b2 with
          | false =>
            have HV := Lib.hid HA.out
            clear HA HFO
            go_wp2_with (first
              | (go_at_call 48; ((with_reducible refine (HT1.out _ ?_).mono ?_); (focus (refine bel_out ?_; (focus (repeat' first | (with_reducible refine bel_refl ?_) | with_reducible assumption | with_reducible refine bel_drew ?_ | with_reducible refine bel_drewN _ ?_ | with_reducible refine bel_alloc _ ?_ | with_reducible refine bel_set ?_ _ ?_ | (with_reducible apply bel_call; with_reducible assumption) | (with_reducible apply bel_owg; with_reducible assumption; (focus omega)) | with_reducible exact Nat.le_refl _ | omega | (simp; done) | (simp; omega))))); rintro e wv1 ⟨rfl, hv1⟩; (have kv1a := heap_call hv1 kb1); (have kv1b := heap_call hv1 kb2); (have kw1a := Blk.cell kv1a); (have kw1b := Blk.cell kv1b)))
              | (go_at_call 48; ((with_reducible refine (HT2.out _ ?_).mono ?_); (focus (refine bel_out ?_; (focus (repeat' first | (with_reducible refine bel_refl ?_) | with_reducible assumption | with_reducible refine bel_drew ?_ | with_reducible refine bel_drewN _ ?_ | with_reducible refine bel_alloc _ ?_ | with_reducible refine bel_set ?_ _ ?_ | (with_reducible apply bel_call; with_reducible assumption) | (with_reducible apply bel_owg; with_reducible assumption; (focus omega)) | with_reducible exact Nat.le_refl _ | omega | (simp; done) | (simp; omega))))); rintro e wv2 ⟨rfl, hv2⟩; (have kv2a := heap_call hv2 kv1a); (have kv2b := heap_call hv2 kv1b); (have kw2a := Blk.cell kv2a); (have kw2b := Blk.cell kv2b))))
            go_meet
            exact ⟨by rw [HV.out]; rfl, by (refine bel_out ?_; (focus (repeat' first | (with_reducible refine bel_refl ?_) | with_reducible assumption | with_reducible refine bel_drew ?_ | with_reducible refine bel_drewN _ ?_ | with_reducible refine bel_alloc _ ?_ | with_reducible refine bel_set ?_ _ ?_ | (with_reducible apply bel_call; with_reducible assumption) | (with_reducible apply bel_owg; with_reducible assumption; (focus omega)) | with_reducible exact Nat.le_refl _ | omega | (simp; done) | (simp; omega))))⟩
          | true =>
            cases b3 with
            | true =>
              have HV := Lib.hid HA.out
              clear HA HFO
              go_wp2_with (first
                | (go_at_call 48; ((with_reducible refine (HT1.out _ ?_).mono ?_); (focus (refine bel_out ?_; (focus (repeat' first | (with_reducible refine bel_refl ?_) | with_reducible assumption | with_reducible refine bel_drew ?_ | with_reducible refine bel_drewN _ ?_ | with_reducible refine bel_alloc _ ?_ | with_reducible refine bel_set ?_ _ ?_ | (with_reducible apply bel_call; with_reducible assumption) | (with_reducible apply bel_owg; with_reducible assumption; (focus omega)) | with_reducible exact Nat.le_refl _ | omega | (simp; done) | (simp; omega))))); rintro e wv1 ⟨rfl, hv1⟩; (have kv1a := heap_call hv1 kb1); (have kv1b := heap_call hv1 kb2); (have kw1a := Blk.cell kv1a); (have kw1b := Blk.cell kv1b)))
                | (go_at_call 48; ((with_reducible refine (HT2.out _ ?_).mono ?_); (focus (refine bel_out ?_; (focus (repeat' first | (with_reducible refine bel_refl ?_) | with_reducible assumption | with_reducible refine bel_drew ?_ | with_reducible refine bel_drewN _ ?_ | with_reducible refine bel_alloc _ ?_ | with_reducible refine bel_set ?_ _ ?_ | (with_reducible apply bel_call; with_reducible assumption) | (with_reducible apply bel_owg; with_reducible assumption; (focus omega)) | with_reducible exact Nat.le_refl _ | omega | (simp; done) | (simp; omega))))); rintro e wv2 ⟨rfl, hv2⟩; (have kv2a := heap_call hv2 kv1a); (have kv2b := heap_call hv2 kv1b); (have kw2a := Blk.cell kv2a); (have kw2b := Blk.cell kv2b)))
                | (go_at_call 49; go_must (refine (HUs.out _).mono ?_; rintro e wu ⟨rfl, rfl⟩)))
              go_meet
              exact ⟨by rw [HV.out]; rfl, by (refine bel_out ?_; (focus (repeat' first | (with_reducible refine bel_refl ?_) | with_reducible assumption | with_reducible refine bel_drew ?_ | with_reducible refine bel_drewN _ ?_ | with_reducible refine bel_alloc _ ?_ | with_reducible refine bel_set ?_ _ ?_ | (with_reducible apply bel_call; with_reducible assumption) | (with_reducible apply bel_owg; with_reducible assumption; (focus omega)) | with_reducible exact Nat.le_refl _ | omega | (simp; done) | (simp; omega))))⟩
            | false =>
              have HV := Lib.hid HA.out
              clear HA HFO
              go_wp2_with (first
                | (go_at_call 48; ((with_reducible refine (HT1.out _ ?_).mono ?_); (focus (refine bel_out ?_; (focus (repeat' first | (with_reducible refine bel_refl ?_) | with_reducible assumption | with_reducible refine bel_drew ?_ | with_reducible refine bel_drewN _ ?_ | with_reducible refine bel_alloc _ ?_ | with_reducible refine bel_set ?_ _ ?_ | (with_reducible apply bel_call; with_reducible assumption) | (with_reducible apply bel_owg; with_reducible assumption; (focus omega)) | with_reducible exact Nat.le_refl _ | omega | (simp; done) | (simp; omega))))); rintro e wv1 ⟨rfl, hv1⟩; (have kv1a := heap_call hv1 kb1); (have kv1b := heap_call hv1 kb2); (have kw1a := Blk.cell kv1a); (have kw1b := Blk.cell kv1b)))
                | (go_at_call 48; ((with_reducible refine (HT2.out _ ?_).mono ?_); (focus (refine bel_out ?_; (focus (repeat' first | (with_reducible refine bel_refl ?_) | with_reducible assumption | with_reducible refine bel_drew ?_ | with_reducible refine bel_drewN _ ?_ | with_reducible refine bel_alloc _ ?_ | with_reducible refine bel_set ?_ _ ?_ | (with_reducible apply bel_call; with_reducible assumption) | (with_reducible apply bel_owg; with_reducible assumption; (focus omega)) | with_reducible exact Nat.le_refl _ | omega | (simp; done) | (simp; omega))))); rintro e wv2 ⟨rfl, hv2⟩; (have kv2a := heap_call hv2 kv1a); (have kv2b := heap_call hv2 kv1b); (have kw2a := Blk.cell kv2a); (have kw2b := Blk.cell kv2b)))
                | (go_at_call 49; go_must (refine (HUs.out _).mono ?_; rintro e wu ⟨rfl, rfl⟩)))
              go_meet
              exact ⟨by rw [HV.out]; rfl, by (refine bel_out ?_; (focus (repeat' first | (with_reducible refine bel_refl ?_) | with_reducible assumption | with_reducible refine bel_drew ?_ | with_reducible refine bel_drewN _ ?_ | with_reducible refine bel_alloc _ ?_ | with_reducible refine bel_set ?_ _ ?_ | (with_reducible apply bel_call; with_reducible assumption) | (with_reducible apply bel_owg; with_reducible assumption; (focus omega)) | with_reducible exact Nat.le_refl _ | omega | (simp; done) | (simp; omega))))⟩
  case rest =>
    obtain ⟨rfl, hbw⟩ := hcut
    obtain ⟨w2, rfl⟩ : ∃ q, q = wc := ⟨_, rfl⟩
    have kd1 := heap_call hbw kb1
    have kd2 := heap_call hbw kb2
    have kc1 := Blk.cell kd1
    have kc2 := Blk.cell kd2
    have hb02 := below_call hb0 hbw
    clear kb1 kb2 hb0 hbw HT HU HA HFO
    cases ra with
    | false =>
      have HF : Hid (R = false) := Lib.hid (by rw [HR.out]; rfl)
      clear HR
      go_wp2_with fail
      go_ret
      exact ⟨by first | (rw [HF.out]; done) | (rw [HF.out]; rfl), hb02⟩
    | true =>
      rcases kinds HK.out with rfl | rfl | rfl | rfl | rfl | rfl | rfl | rfl | rfl | rfl
      · have e1 : bK = false := GK.out
        have e2 : bH = false := GH.out
        subst e1 e2
        clear GK GH HK
        have HF : Hid (R = true) := Lib.hid (by rw [HR.out]; simp)
        clear HR
        go_wp2_with (first | (go_at_call 50; go_must (refine (HB.out _ _).mono ?_; rintro e wn ⟨rfl, rfl⟩)))
        go_ret
        exact ⟨by first | (rw [HF.out]; done) | (rw [HF.out]; rfl), hb02⟩
      · have e1 : bK = false := GK.out
        have e2 : bH = false := GH.out
        subst e1 e2
        clear GK GH HK
        have HF : Hid (R = true) := Lib.hid (by rw [HR.out]; simp)
        clear HR
        go_wp2_with (first | (go_at_call 50; go_must (refine (HB.out _ _).mono ?_; rintro e wn ⟨rfl, rfl⟩)))
        go_ret
        exact ⟨by first | (rw [HF.out]; done) | (rw [HF.out]; rfl), hb02⟩
      · have e1 : bK = false := GK.out
        have e2 : bH = false := GH.out
        subst e1 e2
        clear GK GH HK
        have HF : Hid (R = true) := Lib.hid (by rw [HR.out]; simp)
        clear HR
        go_wp2_with (first | (go_at_call 50; go_must (refine (HB.out _ _).mono ?_; rintro e wn ⟨rfl, rfl⟩)))
        go_ret
        exact ⟨by first | (rw [HF.out]; done) | (rw [HF.out]; rfl), hb02⟩
      · have e1 : bK = true := GK.out
        have e2 : bH = false := GH.out
        subst e1 e2
        clear GK GH HK
        have l1 : loB 4 = 0 := rfl
        have l2 : hiB 4 = 1 := rfl
        rw [l1, l2] at HR
        have HB2 := Lib.hid (HB.out 4)
        rw [l1, l2] at HB2
        clear l1 l2 HB
        have HB := HB2
        clear HB2
        by_cases g1 : z < 0
        · have g2 : ¬ (0 ≤ z ∧ z ≤ 1) := by omega
          have HF : Hid (R = false) := Lib.hid (by rw [HR.out]; simp [g2])
          clear HR
          clear g2
          go_wp2_with (first | (go_at_call 50; go_must (refine (HB.out _).mono ?_; rintro e wn ⟨rfl, rfl⟩)))
          go_ret
          exact ⟨by first | (rw [HF.out]; done) | (rw [HF.out]; rfl), hb02⟩
        · by_cases g3 : 1 < z
          · have g2 : ¬ (0 ≤ z ∧ z ≤ 1) := by omega
            have HF : Hid (R = false) := Lib.hid (by rw [HR.out]; simp [g2])
            clear HR
            clear g2
            go_wp2_with (first | (go_at_call 50; go_must (refine (HB.out _).mono ?_; rintro e wn ⟨rfl, rfl⟩)))
            go_ret
            exact ⟨by first | (rw [HF.out]; done) | (rw [HF.out]; rfl), hb02⟩
          · have g2 : 0 ≤ z ∧ z ≤ 1 := by omega
            have HF : Hid (R = true) := Lib.hid (by rw [HR.out]; simp [g2])
            clear HR
            clear g2
            go_wp2_with (first | (go_at_call 50; go_must (refine (HB.out _).mono ?_; rintro e wn ⟨rfl, rfl⟩)))
            go_ret
            exact ⟨by first | (rw [HF.out]; done) | (rw [HF.out]; rfl), hb02⟩
      · have e1 : bK = false := GK.out
        have e2 : bH = true := GH.out
        subst e1 e2
        clear GK GH HK
        have HF : Hid (R = hst hs) := Lib.hid (by rw [HR.out]; simp)
        generalize hst hs = b9 at *
        clear HR
        go_wp2_with (first | (go_at_call 50; go_must (refine (HB.out _ _).mono ?_; rintro e wn ⟨rfl, rfl⟩)) | (go_at_call 51; go_must (refine (HH.out _ hb02).mono ?_; rintro e wh ⟨rfl, hbh⟩)))
        go_ret
        exact ⟨by first | (rw [HF.out]; done) | (rw [HF.out]; rfl), below_call hb02 hbh⟩
      · have e1 : bK = true := GK.out
        have e2 : bH = false := GH.out
        subst e1 e2
        clear GK GH HK
        have l1 : loB 6 = 1 := rfl
        have l2 : hiB 6 = 52596000 := rfl
        rw [l1, l2] at HR
        have HB2 := Lib.hid (HB.out 6)
        rw [l1, l2] at HB2
        clear l1 l2 HB
        have HB := HB2
        clear HB2
        by_cases g1 : z < 1
        · have g2 : ¬ (1 ≤ z ∧ z ≤ 52596000) := by omega
          have HF : Hid (R = false) := Lib.hid (by rw [HR.out]; simp [g2])
          clear HR
          clear g2
          go_wp2_with (first | (go_at_call 50; go_must (refine (HB.out _).mono ?_; rintro e wn ⟨rfl, rfl⟩)))
          go_ret
          exact ⟨by first | (rw [HF.out]; done) | (rw [HF.out]; rfl), hb02⟩
        · by_cases g3 : 52596000 < z
          · have g2 : ¬ (1 ≤ z ∧ z ≤ 52596000) := by omega
            have HF : Hid (R = false) := Lib.hid (by rw [HR.out]; simp [g2])
            clear HR
            clear g2
            go_wp2_with (first | (go_at_call 50; go_must (refine (HB.out _).mono ?_; rintro e wn ⟨rfl, rfl⟩)))
            go_ret
            exact ⟨by first | (rw [HF.out]; done) | (rw [HF.out]; rfl), hb02⟩
          · have g2 : 1 ≤ z ∧ z ≤ 52596000 := by omega
            have HF : Hid (R = true) := Lib.hid (by rw [HR.out]; simp [g2])
            clear HR
            clear g2
            go_wp2_with (first | (go_at_call 50; go_must (refine (HB.out _).mono ?_; rintro e wn ⟨rfl, rfl⟩)))
            go_ret
            exact ⟨by first | (rw [HF.out]; done) | (rw [HF.out]; rfl), hb02⟩
      · have e1 : bK = false := GK.out
        have e2 : bH = false := GH.out
        subst e1 e2
        clear GK GH HK
        by_cases g : us.size = 0
        · obtain ⟨q1, q2, q3⟩ := str_e g
          have HF : Hid (R = false) := Lib.hid (by rw [HR.out]; simp [g])
          clear HR
          clear g
          go_wp2_with (first | (go_at_call 50; go_must (refine (HB.out _ _).mono ?_; rintro e wn ⟨rfl, rfl⟩)))
          go_ret
          exact ⟨by first | (rw [HF.out]; done) | (rw [HF.out]; rfl), hb02⟩
        · obtain ⟨q1, q2, q3, q4⟩ := str_ne g
          have HF : Hid (R = true) := Lib.hid (by rw [HR.out]; simp [g])
          clear HR
          clear g
          go_wp2_with (first | (go_at_call 50; go_must (refine (HB.out _ _).mono ?_; rintro e wn ⟨rfl, rfl⟩)))
          go_ret
          exact ⟨by first | (rw [HF.out]; done) | (rw [HF.out]; rfl), hb02⟩
      · have e1 : bK = false := GK.out
        have e2 : bH = false := GH.out
        subst e1 e2
        clear GK GH HK
        by_cases g : us.size = 0
        · obtain ⟨q1, q2, q3⟩ := str_e g
          have HF : Hid (R = false) := Lib.hid (by rw [HR.out]; simp [g])
          clear HR
          clear g
          go_wp2_with (first | (go_at_call 50; go_must (refine (HB.out _ _).mono ?_; rintro e wn ⟨rfl, rfl⟩)))
          go_ret
          exact ⟨by first | (rw [HF.out]; done) | (rw [HF.out]; rfl), hb02⟩
        · obtain ⟨q1, q2, q3, q4⟩ := str_ne g
          have HF : Hid (R = true) := Lib.hid (by rw [HR.out]; simp [g])
          clear HR
          clear g
          go_wp2_with (first | (go_at_call 50; go_must (refine (HB.out _ _).mono ?_; rintro e wn ⟨rfl, rfl⟩)))
          go_ret
          exact ⟨by first | (rw [HF.out]; done) | (rw [HF.out]; rfl), hb02⟩
      · have e1 : bK = true := GK.out
        have e2 : bH = false := GH.out
        subst e1 e2
        clear GK GH HK
        have l1 : loB 9 = 0 := rfl
        have l2 : hiB 9 = 40 := rfl
        rw [l1, l2] at HR
        have HB2 := Lib.hid (HB.out 9)
        rw [l1, l2] at HB2
        clear l1 l2 HB
        have HB := HB2
        clear HB2
        by_cases g1 : z < 0
        · have g2 : ¬ (0 ≤ z ∧ z ≤ 40) := by omega
          have HF : Hid (R = false) := Lib.hid (by rw [HR.out]; simp [g2])
          clear HR
          clear g2
          go_wp2_with (first | (go_at_call 50; go_must (refine (HB.out _).mono ?_; rintro e wn ⟨rfl, rfl⟩)))
          go_ret
          exact ⟨by first | (rw [HF.out]; done) | (rw [HF.out]; rfl), hb02⟩
        · by_cases g3 : 40 < z
          · have g2 : ¬ (0 ≤ z ∧ z ≤ 40) := by omega
            have HF : Hid (R = false) := Lib.hid (by rw [HR.out]; simp [g2])
            clear HR
            clear g2
            go_wp2_with (first | (go_at_call 50; go_must (refine (HB.out _).mono ?_; rintro e wn ⟨rfl, rfl⟩)))
            go_ret
            exact ⟨by first | (rw [HF.out]; done) | (rw [HF.out]; rfl), hb02⟩
          · have g2 : 0 ≤ z ∧ z ≤ 40 := by omega
            have HF : Hid (R = true) := Lib.hid (by rw [HR.out]; simp [g2])
            clear HR
            clear g2
            go_wp2_with (first | (go_at_call 50; go_must (refine (HB.out _).mono ?_; rintro e wn ⟨rfl, rfl⟩)))
            go_ret
            exact ⟨by first | (rw [HF.out]; done) | (rw [HF.out]; rfl), hb02⟩
      · have e1 : bK = true := GK.out
        have e2 : bH = false := GH.out
        subst e1 e2
        clear GK GH HK
        have l1 : loB 10 = 1 := rfl
        have l2 : hiB 10 = 1073741824 := rfl
        rw [l1, l2] at HR
        have HB2 := Lib.hid (HB.out 10)
        rw [l1, l2] at HB2
        clear l1 l2 HB
        have HB := HB2
        clear HB2
        by_cases g1 : z < 1
        · have g2 : ¬ (1 ≤ z ∧ z ≤ 1073741824) := by omega
          have HF : Hid (R = false) := Lib.hid (by rw [HR.out]; simp [g2])
          clear HR
          clear g2
          go_wp2_with (first | (go_at_call 50; go_must (refine (HB.out _).mono ?_; rintro e wn ⟨rfl, rfl⟩)))
          go_ret
          exact ⟨by first | (rw [HF.out]; done) | (rw [HF.out]; rfl), hb02⟩
        · by_cases g3 : 1073741824 < z
          · have g2 : ¬ (1 ≤ z ∧ z ≤ 1073741824) := by omega
            have HF : Hid (R = false) := Lib.hid (by rw [HR.out]; simp [g2])
            clear HR
            clear g2
            go_wp2_with (first | (go_at_call 50; go_must (refine (HB.out _).mono ?_; rintro e wn ⟨rfl, rfl⟩)))
            go_ret
            exact ⟨by first | (rw [HF.out]; done) | (rw [HF.out]; rfl), hb02⟩
          · have g2 : 1 ≤ z ∧ z ≤ 1073741824 := by omega
            have HF : Hid (R = true) := Lib.hid (by rw [HR.out]; simp [g2])
            clear HR
            clear g2
            go_wp2_with (first | (go_at_call 50; go_must (refine (HB.out _).mono ?_; rintro e wn ⟨rfl, rfl⟩)))
            go_ret
            exact ⟨by first | (rw [HF.out]; done) | (rw [HF.out]; rfl), hb02⟩
end Go.Proofs.YtbeijpajodgpeaaDoor
