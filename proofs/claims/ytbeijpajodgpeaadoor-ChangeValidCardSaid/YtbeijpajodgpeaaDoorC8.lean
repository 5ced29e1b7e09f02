/- The walks of trcref26.within and trcref26.Valid. Printed by gen_c8.py -/
import Derived.Test.YtbeijpajodgpeaaDoorC4r
import Derived.Test.YtbeijpajodgpeaaDoorC5
import Derived.Test.YtbeijpajodgpeaaDoorM7
import Derived.Test.YtbeijpajodgpeaaDoorQ7
import Derived.Test.YtbeijpajodgpeaaDoorC6
namespace Go.Proofs.YtbeijpajodgpeaaDoor
open Go.RowKit
set_option linter.unusedSimpArgs false
set_option linter.unusedVariables false

set_option maxRecDepth 100000 in
set_option maxHeartbeats 16000000 in
theorem rwithin_any (c : Cg) (A : Option Addr) (n cp : Nat) (w : World) (h : RdR RV 6 w A n cp c.hs) (hwf : ∀ r ∈ c.hs, RvWf r) (hk : 1 ≤ c.kd ∧ c.kd ≤ 10) :
    Calls Tryd.prog 39 #[cval c A n cp] w fun e w' => e = .returned (.bool (rng c)) ∧ Below w.heap.size w w' := by
  have HT1 := Lib.hid fun (W : World) => rtitle_any c.ts c.tn W
  have HT2 := Lib.hid fun (W : World) => rtitle_any c.os c.on W
  have HU := Lib.hid fun (W : World) => risuser_any c.us W
  have HH := Lib.hid fun (W : World) (hW : Below w.heap.size w W) => rhistory_any A n cp c.hs W (RdV.below h hW) hwf
  have HR := Lib.hid (rng_eq c)
  clear h hwf
  obtain ⟨kd, us, nt, ts, tn, os, on, tx, z, hs⟩ := c
  simp only [] at HH HR HT1 HT2 HU
  generalize rng ⟨kd, us, nt, ts, tn, os, on, tx, z, hs⟩ = R at *
  have HA : Hid (rA kd us ts tn os on = ((!fT kd || tv ts tn) && (!fO kd || tv os on) && isUs us)) := Lib.hid rfl
  generalize rA kd us ts tn os on = ra at *
  generalize tv ts tn = b1 at *
  generalize tv os on = b2 at *
  generalize isUs us = b3 at *
  generalize hst hs = b9 at *
  unfold cval
  simp only [] at hk ⊢
  have hub : ∀ b : Bool, (some undef = some (Value.bool b)) = False := fun b => by simp [undef]
  have hub2 : ∀ b : Bool, (undef = Value.bool b) = False := fun b => by simp [undef]
  have kb0 : (w.alloc (.cells #[.int .i64 kd, .string us, .string nt, .int .i64 ts, .string tn, .int .i64 os, .string on, .string tx, .int .i64 z, .slice A n cp] 31)).heap[w.heap.size]? = some (.cells #[.int .i64 kd, .string us, .string nt, .int .i64 ts, .string tn, .int .i64 os, .string on, .string tx, .int .i64 z, .slice A n cp] 31 (0, 0)) := heap_new rfl
  have hb0 : Below w.heap.size w (w.alloc (.cells #[.int .i64 kd, .string us, .string nt, .int .i64 ts, .string tn, .int .i64 os, .string on, .string tx, .int .i64 z, .slice A n cp] 31)) := (Below.refl _ _).alloc (Nat.le_refl _) _
  have HC : Hid ((1 ≤ kd ∧ kd ≤ 3) ∨ kd = 4 ∨ kd = 5 ∨ kd = 6 ∨ kd = 7 ∨ kd = 8 ∨ kd = 9 ∨ kd = 10) := Lib.hid (by omega)
  clear hk
  rcases HC.out with hk | rfl | rfl | rfl | rfl | rfl | rfl | rfl
  · have fl1 : fT kd = true := decide_eq_true (by omega)
    have fl2 : fO kd = false := decide_eq_false (by omega)
    have fl3 : fK kd = false := decide_eq_false (by omega)
    have fl4 : fH kd = false := decide_eq_false (by omega)
    have fl5 : ¬ (kd = 7 ∨ kd = 8) := by omega
    have k4 : (kd == 4) = false := by simp; omega
    have k5 : (kd == 5) = false := by simp; omega
    have k6 : (kd == 6) = false := by simp; omega
    have k7 : (kd == 7) = false := by simp; omega
    have k8 : (kd == 8) = false := by simp; omega
    have k9 : (kd == 9) = false := by simp; omega
    have k10 : (kd == 10) = false := by simp; omega
    have m6 : (kd != 6) = true := by simp; omega
    have m10 : (kd != 10) = true := by simp; omega
    clear hk
    cases b1 with
    | false =>
      have HF : Hid (R = false) := Lib.hid (by rw [HR.out, HA.out]; simp [fl1, fl2, fl3, fl4, fl5])
      clear HR HA fl1 fl2 fl3 fl4 fl5
      go_enter Tryd.func39, Tryd.ntmps39
      go_wp2_with (first | (go_at_call 54; ((with_reducible refine (HT1.out _).mono ?_); rintro e wv1 ⟨rfl, hv1⟩; (have kv1 := heap_call hv1 kb0); (have kw1 := Blk.cell kv1))))
      go_ret
      exact ⟨by first | (rw [HF.out]; done) | (rw [HF.out]; rfl) | (rw [HF.out, ← HD.out]; rfl), by (refine bel_out ?_; (focus (repeat' first | (with_reducible refine bel_refl ?_) | with_reducible assumption | with_reducible refine bel_drew ?_ | with_reducible refine bel_drewN _ ?_ | with_reducible refine bel_alloc _ ?_ | with_reducible refine bel_set ?_ _ ?_ | (with_reducible apply bel_call; with_reducible assumption) | (with_reducible apply bel_owg; with_reducible assumption; (focus omega)) | with_reducible exact Nat.le_refl _ | omega | (simp; done) | (simp; omega))))⟩
    | true =>
      cases b3 with
      | false =>
        have HF : Hid (R = false) := Lib.hid (by rw [HR.out, HA.out]; simp [fl1, fl2, fl3, fl4, fl5])
        clear HR HA fl1 fl2 fl3 fl4 fl5
        go_enter Tryd.func39, Tryd.ntmps39
        go_wp2_with (first | (go_at_call 54; ((with_reducible refine (HT1.out _).mono ?_); rintro e wv1 ⟨rfl, hv1⟩; (have kv1 := heap_call hv1 kb0); (have kw1 := Blk.cell kv1))) | (go_at_call 55; ((with_reducible refine (HU.out _).mono ?_); rintro e wu ⟨rfl, rfl⟩)))
        go_ret
        exact ⟨by first | (rw [HF.out]; done) | (rw [HF.out]; rfl) | (rw [HF.out, ← HD.out]; rfl), by (refine bel_out ?_; (focus (repeat' first | (with_reducible refine bel_refl ?_) | with_reducible assumption | with_reducible refine bel_drew ?_ | with_reducible refine bel_drewN _ ?_ | with_reducible refine bel_alloc _ ?_ | with_reducible refine bel_set ?_ _ ?_ | (with_reducible apply bel_call; with_reducible assumption) | (with_reducible apply bel_owg; with_reducible assumption; (focus omega)) | with_reducible exact Nat.le_refl _ | omega | (simp; done) | (simp; omega))))⟩
      | true =>
        have HF : Hid (R = true) := Lib.hid (by rw [HR.out, HA.out]; simp [fl1, fl2, fl3, fl4, fl5])
        clear HR HA fl1 fl2 fl3 fl4 fl5
        go_enter Tryd.func39, Tryd.ntmps39
        go_wp2_with (first | (go_at_call 54; ((with_reducible refine (HT1.out _).mono ?_); rintro e wv1 ⟨rfl, hv1⟩; (have kv1 := heap_call hv1 kb0); (have kw1 := Blk.cell kv1))) | (go_at_call 55; ((with_reducible refine (HU.out _).mono ?_); rintro e wu ⟨rfl, rfl⟩)))
        go_ret
        exact ⟨by first | (rw [HF.out]; done) | (rw [HF.out]; rfl) | (rw [HF.out, ← HD.out]; rfl), by (refine bel_out ?_; (focus (repeat' first | (with_reducible refine bel_refl ?_) | with_reducible assumption | with_reducible refine bel_drew ?_ | with_reducible refine bel_drewN _ ?_ | with_reducible refine bel_alloc _ ?_ | with_reducible refine bel_set ?_ _ ?_ | (with_reducible apply bel_call; with_reducible assumption) | (with_reducible apply bel_owg; with_reducible assumption; (focus omega)) | with_reducible exact Nat.le_refl _ | omega | (simp; done) | (simp; omega))))⟩
  · have fl1 : fT 4 = true := rfl
    have fl2 : fO 4 = true := rfl
    have fl3 : fK 4 = true := rfl
    have fl4 : fH 4 = false := rfl
    have l1 : loB 4 = 0 := rfl
    have l2 : hiB 4 = 1 := rfl
    cases b1 with
    | false =>
      have HF : Hid (R = false) := Lib.hid (by rw [HR.out, HA.out]; simp [fl1, fl2, fl3, fl4, l1, l2])
      clear HR HA fl1 fl2 fl3 fl4 l1 l2
      go_enter Tryd.func39, Tryd.ntmps39
      go_wp2_with (first | (go_at_call 54; ((with_reducible refine (HT1.out _).mono ?_); rintro e wv1 ⟨rfl, hv1⟩; (have kv1 := heap_call hv1 kb0); (have kw1 := Blk.cell kv1))))
      go_ret
      exact ⟨by first | (rw [HF.out]; done) | (rw [HF.out]; rfl) | (rw [HF.out, ← HD.out]; rfl), by (refine bel_out ?_; (focus (repeat' first | (with_reducible refine bel_refl ?_) | with_reducible assumption | with_reducible refine bel_drew ?_ | with_reducible refine bel_drewN _ ?_ | with_reducible refine bel_alloc _ ?_ | with_reducible refine bel_set ?_ _ ?_ | (with_reducible apply bel_call; with_reducible assumption) | (with_reducible apply bel_owg; with_reducible assumption; (focus omega)) | with_reducible exact Nat.le_refl _ | omega | (simp; done) | (simp; omega))))⟩
    | true =>
      cases b3 with
      | false =>
        have HF : Hid (R = false) := Lib.hid (by rw [HR.out, HA.out]; simp [fl1, fl2, fl3, fl4, l1, l2])
        clear HR HA fl1 fl2 fl3 fl4 l1 l2
        go_enter Tryd.func39, Tryd.ntmps39
        go_wp2_with (first | (go_at_call 54; ((with_reducible refine (HT1.out _).mono ?_); rintro e wv1 ⟨rfl, hv1⟩; (have kv1 := heap_call hv1 kb0); (have kw1 := Blk.cell kv1))) | (go_at_call 55; ((with_reducible refine (HU.out _).mono ?_); rintro e wu ⟨rfl, rfl⟩)))
        go_ret
        exact ⟨by first | (rw [HF.out]; done) | (rw [HF.out]; rfl) | (rw [HF.out, ← HD.out]; rfl), by (refine bel_out ?_; (focus (repeat' first | (with_reducible refine bel_refl ?_) | with_reducible assumption | with_reducible refine bel_drew ?_ | with_reducible refine bel_drewN _ ?_ | with_reducible refine bel_alloc _ ?_ | with_reducible refine bel_set ?_ _ ?_ | (with_reducible apply bel_call; with_reducible assumption) | (with_reducible apply bel_owg; with_reducible assumption; (focus omega)) | with_reducible exact Nat.le_refl _ | omega | (simp; done) | (simp; omega))))⟩
      | true =>
        cases b2 with
        | false =>
          have HF : Hid (R = false) := Lib.hid (by rw [HR.out, HA.out]; simp [fl1, fl2, fl3, fl4, l1, l2])
          clear HR HA fl1 fl2 fl3 fl4 l1 l2
          go_enter Tryd.func39, Tryd.ntmps39
          go_wp2_with (first | (go_at_call 54; ((with_reducible refine (HT1.out _).mono ?_); rintro e wv1 ⟨rfl, hv1⟩; (have kv1 := heap_call hv1 kb0); (have kw1 := Blk.cell kv1))) | (go_at_call 55; ((with_reducible refine (HU.out _).mono ?_); rintro e wu ⟨rfl, rfl⟩)) | (go_at_call 54; ((with_reducible refine (HT2.out _).mono ?_); rintro e wv2 ⟨rfl, hv2⟩; (have kv2 := heap_call hv2 kv1); (have kw2 := Blk.cell kv2))))
          go_ret
          exact ⟨by first | (rw [HF.out]; done) | (rw [HF.out]; rfl) | (rw [HF.out, ← HD.out]; rfl), by (refine bel_out ?_; (focus (repeat' first | (with_reducible refine bel_refl ?_) | with_reducible assumption | with_reducible refine bel_drew ?_ | with_reducible refine bel_drewN _ ?_ | with_reducible refine bel_alloc _ ?_ | with_reducible refine bel_set ?_ _ ?_ | (with_reducible apply bel_call; with_reducible assumption) | (with_reducible apply bel_owg; with_reducible assumption; (focus omega)) | with_reducible exact Nat.le_refl _ | omega | (simp; done) | (simp; omega))))⟩
        | true =>
          by_cases g1 : z = 0
          · have e1 : (z == 0) = true := by simpa using g1
            have g2 : 0 ≤ z ∧ z ≤ 1 := by omega
            clear g1
            have HF : Hid (R = true) := Lib.hid (by rw [HR.out, HA.out]; simp [fl1, fl2, fl3, fl4, l1, l2, g2])
            clear HR HA fl1 fl2 fl3 fl4 l1 l2 g2
            go_enter Tryd.func39, Tryd.ntmps39
            go_wp2_with (first | (go_at_call 54; ((with_reducible refine (HT1.out _).mono ?_); rintro e wv1 ⟨rfl, hv1⟩; (have kv1 := heap_call hv1 kb0); (have kw1 := Blk.cell kv1))) | (go_at_call 55; ((with_reducible refine (HU.out _).mono ?_); rintro e wu ⟨rfl, rfl⟩)) | (go_at_call 54; ((with_reducible refine (HT2.out _).mono ?_); rintro e wv2 ⟨rfl, hv2⟩; (have kv2 := heap_call hv2 kv1); (have kw2 := Blk.cell kv2))))
            go_ret
            exact ⟨by first | (rw [HF.out]; done) | (rw [HF.out]; rfl) | (rw [HF.out, ← HD.out]; rfl), by (refine bel_out ?_; (focus (repeat' first | (with_reducible refine bel_refl ?_) | with_reducible assumption | with_reducible refine bel_drew ?_ | with_reducible refine bel_drewN _ ?_ | with_reducible refine bel_alloc _ ?_ | with_reducible refine bel_set ?_ _ ?_ | (with_reducible apply bel_call; with_reducible assumption) | (with_reducible apply bel_owg; with_reducible assumption; (focus omega)) | with_reducible exact Nat.le_refl _ | omega | (simp; done) | (simp; omega))))⟩
          · have e1 : (z == 0) = false := by simpa using g1
            by_cases g3 : z = 1
            · have e2 : (z == 1) = true := by simpa using g3
              have g2 : 0 ≤ z ∧ z ≤ 1 := by omega
              clear g1 g3
              have HF : Hid (R = true) := Lib.hid (by rw [HR.out, HA.out]; simp [fl1, fl2, fl3, fl4, l1, l2, g2])
              clear HR HA fl1 fl2 fl3 fl4 l1 l2 g2
              go_enter Tryd.func39, Tryd.ntmps39
              go_wp2_with (first | (go_at_call 54; ((with_reducible refine (HT1.out _).mono ?_); rintro e wv1 ⟨rfl, hv1⟩; (have kv1 := heap_call hv1 kb0); (have kw1 := Blk.cell kv1))) | (go_at_call 55; ((with_reducible refine (HU.out _).mono ?_); rintro e wu ⟨rfl, rfl⟩)) | (go_at_call 54; ((with_reducible refine (HT2.out _).mono ?_); rintro e wv2 ⟨rfl, hv2⟩; (have kv2 := heap_call hv2 kv1); (have kw2 := Blk.cell kv2))))
              go_ret
              exact ⟨by first | (rw [HF.out]; done) | (rw [HF.out]; rfl) | (rw [HF.out, ← HD.out]; rfl), by (refine bel_out ?_; (focus (repeat' first | (with_reducible refine bel_refl ?_) | with_reducible assumption | with_reducible refine bel_drew ?_ | with_reducible refine bel_drewN _ ?_ | with_reducible refine bel_alloc _ ?_ | with_reducible refine bel_set ?_ _ ?_ | (with_reducible apply bel_call; with_reducible assumption) | (with_reducible apply bel_owg; with_reducible assumption; (focus omega)) | with_reducible exact Nat.le_refl _ | omega | (simp; done) | (simp; omega))))⟩
            · have e2 : (z == 1) = false := by simpa using g3
              have g2 : ¬ (0 ≤ z ∧ z ≤ 1) := by omega
              have g4 : (decide (0 ≤ z) && decide (z ≤ 1)) = false := by rw [← Bool.decide_and]; exact decide_eq_false g2
              clear g1 g3
              have HF : Hid (R = false) := Lib.hid (by rw [HR.out, HA.out]; simp [fl1, fl2, fl3, fl4, l1, l2, g2, g4])
              clear HR HA fl1 fl2 fl3 fl4 l1 l2 g2 g4
              go_enter Tryd.func39, Tryd.ntmps39
              go_wp2_with (first | (go_at_call 54; ((with_reducible refine (HT1.out _).mono ?_); rintro e wv1 ⟨rfl, hv1⟩; (have kv1 := heap_call hv1 kb0); (have kw1 := Blk.cell kv1))) | (go_at_call 55; ((with_reducible refine (HU.out _).mono ?_); rintro e wu ⟨rfl, rfl⟩)) | (go_at_call 54; ((with_reducible refine (HT2.out _).mono ?_); rintro e wv2 ⟨rfl, hv2⟩; (have kv2 := heap_call hv2 kv1); (have kw2 := Blk.cell kv2))))
              go_ret
              exact ⟨by first | (rw [HF.out]; done) | (rw [HF.out]; rfl) | (rw [HF.out, ← HD.out]; rfl), by (refine bel_out ?_; (focus (repeat' first | (with_reducible refine bel_refl ?_) | with_reducible assumption | with_reducible refine bel_drew ?_ | with_reducible refine bel_drewN _ ?_ | with_reducible refine bel_alloc _ ?_ | with_reducible refine bel_set ?_ _ ?_ | (with_reducible apply bel_call; with_reducible assumption) | (with_reducible apply bel_owg; with_reducible assumption; (focus omega)) | with_reducible exact Nat.le_refl _ | omega | (simp; done) | (simp; omega))))⟩
  · have fl1 : fT 5 = true := rfl
    have fl2 : fO 5 = false := rfl
    have fl3 : fK 5 = false := rfl
    have fl4 : fH 5 = true := rfl
    cases b1 with
    | false =>
      have HF : Hid (R = false) := Lib.hid (by rw [HR.out, HA.out]; simp [fl1, fl2, fl3, fl4])
      clear HR HA fl1 fl2 fl3 fl4
      go_enter Tryd.func39, Tryd.ntmps39
      go_wp2_with (first | (go_at_call 54; ((with_reducible refine (HT1.out _).mono ?_); rintro e wv1 ⟨rfl, hv1⟩; (have kv1 := heap_call hv1 kb0); (have kw1 := Blk.cell kv1))))
      go_ret
      exact ⟨by first | (rw [HF.out]; done) | (rw [HF.out]; rfl) | (rw [HF.out, ← HD.out]; rfl), by (refine bel_out ?_; (focus (repeat' first | (with_reducible refine bel_refl ?_) | with_reducible assumption | with_reducible refine bel_drew ?_ | with_reducible refine bel_drewN _ ?_ | with_reducible refine bel_alloc _ ?_ | with_reducible refine bel_set ?_ _ ?_ | (with_reducible apply bel_call; with_reducible assumption) | (with_reducible apply bel_owg; with_reducible assumption; (focus omega)) | with_reducible exact Nat.le_refl _ | omega | (simp; done) | (simp; omega))))⟩
    | true =>
      cases b3 with
      | false =>
        have HF : Hid (R = false) := Lib.hid (by rw [HR.out, HA.out]; simp [fl1, fl2, fl3, fl4])
        clear HR HA fl1 fl2 fl3 fl4
        go_enter Tryd.func39, Tryd.ntmps39
        go_wp2_with (first | (go_at_call 54; ((with_reducible refine (HT1.out _).mono ?_); rintro e wv1 ⟨rfl, hv1⟩; (have kv1 := heap_call hv1 kb0); (have kw1 := Blk.cell kv1))) | (go_at_call 55; ((with_reducible refine (HU.out _).mono ?_); rintro e wu ⟨rfl, rfl⟩)))
        go_ret
        exact ⟨by first | (rw [HF.out]; done) | (rw [HF.out]; rfl) | (rw [HF.out, ← HD.out]; rfl), by (refine bel_out ?_; (focus (repeat' first | (with_reducible refine bel_refl ?_) | with_reducible assumption | with_reducible refine bel_drew ?_ | with_reducible refine bel_drewN _ ?_ | with_reducible refine bel_alloc _ ?_ | with_reducible refine bel_set ?_ _ ?_ | (with_reducible apply bel_call; with_reducible assumption) | (with_reducible apply bel_owg; with_reducible assumption; (focus omega)) | with_reducible exact Nat.le_refl _ | omega | (simp; done) | (simp; omega))))⟩
      | true =>
        have HF : Hid (R = b9) := Lib.hid (by rw [HR.out, HA.out]; simp [fl1, fl2, fl3, fl4])
        clear HR HA fl1 fl2 fl3 fl4
        go_enter Tryd.func39, Tryd.ntmps39
        go_wp2_with (first | (go_at_call 54; ((with_reducible refine (HT1.out _).mono ?_); rintro e wv1 ⟨rfl, hv1⟩; (have kv1 := heap_call hv1 kb0); (have kw1 := Blk.cell kv1))) | (go_at_call 55; ((with_reducible refine (HU.out _).mono ?_); rintro e wu ⟨rfl, rfl⟩)) | (go_at_call 56; ((with_reducible refine (HH.out _ ?_).mono ?_); (focus (refine bel_out ?_; (focus (repeat' first | (with_reducible refine bel_refl ?_) | with_reducible assumption | with_reducible refine bel_drew ?_ | with_reducible refine bel_drewN _ ?_ | with_reducible refine bel_alloc _ ?_ | with_reducible refine bel_set ?_ _ ?_ | (with_reducible apply bel_call; with_reducible assumption) | (with_reducible apply bel_owg; with_reducible assumption; (focus omega)) | with_reducible exact Nat.le_refl _ | omega | (simp; done) | (simp; omega))))); rintro e wh ⟨rfl, hbh⟩)))
        go_ret
        exact ⟨by first | (rw [HF.out]; done) | (rw [HF.out]; rfl) | (rw [HF.out, ← HD.out]; rfl), by (refine bel_out ?_; (focus (repeat' first | (with_reducible refine bel_refl ?_) | with_reducible assumption | with_reducible refine bel_drew ?_ | with_reducible refine bel_drewN _ ?_ | with_reducible refine bel_alloc _ ?_ | with_reducible refine bel_set ?_ _ ?_ | (with_reducible apply bel_call; with_reducible assumption) | (with_reducible apply bel_owg; with_reducible assumption; (focus omega)) | with_reducible exact Nat.le_refl _ | omega | (simp; done) | (simp; omega))))⟩
  · have fl1 : fT 6 = false := rfl
    have fl2 : fO 6 = false := rfl
    have fl3 : fK 6 = true := rfl
    have fl4 : fH 6 = false := rfl
    have l1 : loB 6 = 1 := rfl
    have l2 : hiB 6 = 52596000 := rfl
    cases b3 with
    | false =>
      have HF : Hid (R = false) := Lib.hid (by rw [HR.out, HA.out]; simp [fl1, fl2, fl3, fl4, l1, l2])
      clear HR HA fl1 fl2 fl3 fl4 l1 l2
      go_enter Tryd.func39, Tryd.ntmps39
      go_wp2_with (first | (go_at_call 55; ((with_reducible refine (HU.out _).mono ?_); rintro e wu ⟨rfl, rfl⟩)))
      go_ret
      exact ⟨by first | (rw [HF.out]; done) | (rw [HF.out]; rfl) | (rw [HF.out, ← HD.out]; rfl), by (refine bel_out ?_; (focus (repeat' first | (with_reducible refine bel_refl ?_) | with_reducible assumption | with_reducible refine bel_drew ?_ | with_reducible refine bel_drewN _ ?_ | with_reducible refine bel_alloc _ ?_ | with_reducible refine bel_set ?_ _ ?_ | (with_reducible apply bel_call; with_reducible assumption) | (with_reducible apply bel_owg; with_reducible assumption; (focus omega)) | with_reducible exact Nat.le_refl _ | omega | (simp; done) | (simp; omega))))⟩
    | true =>
      by_cases g1 : z < 1
      · have g2 : ¬ (1 ≤ z ∧ z ≤ 52596000) := by omega
        have e1 : ¬ ((1 : Int) ≤ z) := by omega
        have g4 : (decide (1 ≤ z) && decide (z ≤ 52596000)) = false := by rw [← Bool.decide_and]; exact decide_eq_false g2
        clear g1
        have HF : Hid (R = false) := Lib.hid (by rw [HR.out, HA.out]; simp [fl1, fl2, fl3, fl4, l1, l2, g2, g4])
        clear HR HA fl1 fl2 fl3 fl4 l1 l2 g2 g4
        go_enter Tryd.func39, Tryd.ntmps39
        go_wp2_with (first | (go_at_call 55; ((with_reducible refine (HU.out _).mono ?_); rintro e wu ⟨rfl, rfl⟩)))
        go_ret
        exact ⟨by first | (rw [HF.out]; done) | (rw [HF.out]; rfl) | (rw [HF.out, ← HD.out]; rfl), by (refine bel_out ?_; (focus (repeat' first | (with_reducible refine bel_refl ?_) | with_reducible assumption | with_reducible refine bel_drew ?_ | with_reducible refine bel_drewN _ ?_ | with_reducible refine bel_alloc _ ?_ | with_reducible refine bel_set ?_ _ ?_ | (with_reducible apply bel_call; with_reducible assumption) | (with_reducible apply bel_owg; with_reducible assumption; (focus omega)) | with_reducible exact Nat.le_refl _ | omega | (simp; done) | (simp; omega))))⟩
      · by_cases g3 : 52596000 < z
        · have g2 : ¬ (1 ≤ z ∧ z ≤ 52596000) := by omega
          have e1 : (1 : Int) ≤ z := by omega
          have e2 : ¬ z ≤ (52596000 : Int) := by omega
          have g4 : (decide (1 ≤ z) && decide (z ≤ 52596000)) = false := by rw [← Bool.decide_and]; exact decide_eq_false g2
          have HD : Hid (decide (z ≤ 52596000) = false) := Lib.hid (decide_eq_false e2)
          clear g1 g3
          have HF : Hid (R = false) := Lib.hid (by rw [HR.out, HA.out]; simp [fl1, fl2, fl3, fl4, l1, l2, g2, g4])
          clear HR HA fl1 fl2 fl3 fl4 l1 l2 g2 g4
          go_enter Tryd.func39, Tryd.ntmps39
          go_wp2_with (first | (go_at_call 55; ((with_reducible refine (HU.out _).mono ?_); rintro e wu ⟨rfl, rfl⟩)))
          go_ret
          exact ⟨by first | (rw [HF.out]; done) | (rw [HF.out]; rfl) | (rw [HF.out, ← HD.out]; rfl), by (refine bel_out ?_; (focus (repeat' first | (with_reducible refine bel_refl ?_) | with_reducible assumption | with_reducible refine bel_drew ?_ | with_reducible refine bel_drewN _ ?_ | with_reducible refine bel_alloc _ ?_ | with_reducible refine bel_set ?_ _ ?_ | (with_reducible apply bel_call; with_reducible assumption) | (with_reducible apply bel_owg; with_reducible assumption; (focus omega)) | with_reducible exact Nat.le_refl _ | omega | (simp; done) | (simp; omega))))⟩
        · have g2 : 1 ≤ z ∧ z ≤ 52596000 := by omega
          have e1 : (1 : Int) ≤ z := by omega
          have e2 : z ≤ (52596000 : Int) := by omega
          clear g1 g3
          have HF : Hid (R = true) := Lib.hid (by rw [HR.out, HA.out]; simp [fl1, fl2, fl3, fl4, l1, l2, g2])
          clear HR HA fl1 fl2 fl3 fl4 l1 l2 g2
          go_enter Tryd.func39, Tryd.ntmps39
          go_wp2_with (first | (go_at_call 55; ((with_reducible refine (HU.out _).mono ?_); rintro e wu ⟨rfl, rfl⟩)))
          go_ret
          exact ⟨by first | (rw [HF.out]; done) | (rw [HF.out]; rfl) | (rw [HF.out, ← HD.out]; rfl), by (refine bel_out ?_; (focus (repeat' first | (with_reducible refine bel_refl ?_) | with_reducible assumption | with_reducible refine bel_drew ?_ | with_reducible refine bel_drewN _ ?_ | with_reducible refine bel_alloc _ ?_ | with_reducible refine bel_set ?_ _ ?_ | (with_reducible apply bel_call; with_reducible assumption) | (with_reducible apply bel_owg; with_reducible assumption; (focus omega)) | with_reducible exact Nat.le_refl _ | omega | (simp; done) | (simp; omega))))⟩
  · have fl1 : fT 7 = true := rfl
    have fl2 : fO 7 = false := rfl
    have fl3 : fK 7 = false := rfl
    have fl4 : fH 7 = false := rfl
    cases b1 with
    | false =>
      have HF : Hid (R = false) := Lib.hid (by rw [HR.out, HA.out]; simp [fl1, fl2, fl3, fl4])
      clear HR HA fl1 fl2 fl3 fl4
      go_enter Tryd.func39, Tryd.ntmps39
      go_wp2_with (first | (go_at_call 54; ((with_reducible refine (HT1.out _).mono ?_); rintro e wv1 ⟨rfl, hv1⟩; (have kv1 := heap_call hv1 kb0); (have kw1 := Blk.cell kv1))))
      go_ret
      exact ⟨by first | (rw [HF.out]; done) | (rw [HF.out]; rfl) | (rw [HF.out, ← HD.out]; rfl), by (refine bel_out ?_; (focus (repeat' first | (with_reducible refine bel_refl ?_) | with_reducible assumption | with_reducible refine bel_drew ?_ | with_reducible refine bel_drewN _ ?_ | with_reducible refine bel_alloc _ ?_ | with_reducible refine bel_set ?_ _ ?_ | (with_reducible apply bel_call; with_reducible assumption) | (with_reducible apply bel_owg; with_reducible assumption; (focus omega)) | with_reducible exact Nat.le_refl _ | omega | (simp; done) | (simp; omega))))⟩
    | true =>
      cases b3 with
      | false =>
        have HF : Hid (R = false) := Lib.hid (by rw [HR.out, HA.out]; simp [fl1, fl2, fl3, fl4])
        clear HR HA fl1 fl2 fl3 fl4
        go_enter Tryd.func39, Tryd.ntmps39
        go_wp2_with (first | (go_at_call 54; ((with_reducible refine (HT1.out _).mono ?_); rintro e wv1 ⟨rfl, hv1⟩; (have kv1 := heap_call hv1 kb0); (have kw1 := Blk.cell kv1))) | (go_at_call 55; ((with_reducible refine (HU.out _).mono ?_); rintro e wu ⟨rfl, rfl⟩)))
        go_ret
        exact ⟨by first | (rw [HF.out]; done) | (rw [HF.out]; rfl) | (rw [HF.out, ← HD.out]; rfl), by (refine bel_out ?_; (focus (repeat' first | (with_reducible refine bel_refl ?_) | with_reducible assumption | with_reducible refine bel_drew ?_ | with_reducible refine bel_drewN _ ?_ | with_reducible refine bel_alloc _ ?_ | with_reducible refine bel_set ?_ _ ?_ | (with_reducible apply bel_call; with_reducible assumption) | (with_reducible apply bel_owg; with_reducible assumption; (focus omega)) | with_reducible exact Nat.le_refl _ | omega | (simp; done) | (simp; omega))))⟩
      | true =>
        by_cases g : us.size = 0
        · obtain ⟨q1, q2, q3⟩ := str_e g
          have HF : Hid (R = false) := Lib.hid (by rw [HR.out, HA.out]; simp [fl1, fl2, fl3, fl4, g])
          clear HR HA fl1 fl2 fl3 fl4 g
          go_enter Tryd.func39, Tryd.ntmps39
          go_wp2_with (first | (go_at_call 54; ((with_reducible refine (HT1.out _).mono ?_); rintro e wv1 ⟨rfl, hv1⟩; (have kv1 := heap_call hv1 kb0); (have kw1 := Blk.cell kv1))) | (go_at_call 55; ((with_reducible refine (HU.out _).mono ?_); rintro e wu ⟨rfl, rfl⟩)))
          go_ret
          exact ⟨by first | (rw [HF.out]; done) | (rw [HF.out]; rfl) | (rw [HF.out, ← HD.out]; rfl), by (refine bel_out ?_; (focus (repeat' first | (with_reducible refine bel_refl ?_) | with_reducible assumption | with_reducible refine bel_drew ?_ | with_reducible refine bel_drewN _ ?_ | with_reducible refine bel_alloc _ ?_ | with_reducible refine bel_set ?_ _ ?_ | (with_reducible apply bel_call; with_reducible assumption) | (with_reducible apply bel_owg; with_reducible assumption; (focus omega)) | with_reducible exact Nat.le_refl _ | omega | (simp; done) | (simp; omega))))⟩
        · obtain ⟨q1, q2, q3, q4⟩ := str_ne g
          have HF : Hid (R = true) := Lib.hid (by rw [HR.out, HA.out]; simp [fl1, fl2, fl3, fl4, g])
          clear HR HA fl1 fl2 fl3 fl4 g
          go_enter Tryd.func39, Tryd.ntmps39
          go_wp2_with (first | (go_at_call 54; ((with_reducible refine (HT1.out _).mono ?_); rintro e wv1 ⟨rfl, hv1⟩; (have kv1 := heap_call hv1 kb0); (have kw1 := Blk.cell kv1))) | (go_at_call 55; ((with_reducible refine (HU.out _).mono ?_); rintro e wu ⟨rfl, rfl⟩)))
          go_ret
          exact ⟨by first | (rw [HF.out]; done) | (rw [HF.out]; rfl) | (rw [HF.out, ← HD.out]; rfl), by (refine bel_out ?_; (focus (repeat' first | (with_reducible refine bel_refl ?_) | with_reducible assumption | with_reducible refine bel_drew ?_ | with_reducible refine bel_drewN _ ?_ | with_reducible refine bel_alloc _ ?_ | with_reducible refine bel_set ?_ _ ?_ | (with_reducible apply bel_call; with_reducible assumption) | (with_reducible apply bel_owg; with_reducible assumption; (focus omega)) | with_reducible exact Nat.le_refl _ | omega | (simp; done) | (simp; omega))))⟩
  · have fl1 : fT 8 = true := rfl
    have fl2 : fO 8 = false := rfl
    have fl3 : fK 8 = false := rfl
    have fl4 : fH 8 = false := rfl
    cases b1 with
    | false =>
      have HF : Hid (R = false) := Lib.hid (by rw [HR.out, HA.out]; simp [fl1, fl2, fl3, fl4])
      clear HR HA fl1 fl2 fl3 fl4
      go_enter Tryd.func39, Tryd.ntmps39
      go_wp2_with (first | (go_at_call 54; ((with_reducible refine (HT1.out _).mono ?_); rintro e wv1 ⟨rfl, hv1⟩; (have kv1 := heap_call hv1 kb0); (have kw1 := Blk.cell kv1))))
      go_ret
      exact ⟨by first | (rw [HF.out]; done) | (rw [HF.out]; rfl) | (rw [HF.out, ← HD.out]; rfl), by (refine bel_out ?_; (focus (repeat' first | (with_reducible refine bel_refl ?_) | with_reducible assumption | with_reducible refine bel_drew ?_ | with_reducible refine bel_drewN _ ?_ | with_reducible refine bel_alloc _ ?_ | with_reducible refine bel_set ?_ _ ?_ | (with_reducible apply bel_call; with_reducible assumption) | (with_reducible apply bel_owg; with_reducible assumption; (focus omega)) | with_reducible exact Nat.le_refl _ | omega | (simp; done) | (simp; omega))))⟩
    | true =>
      cases b3 with
      | false =>
        have HF : Hid (R = false) := Lib.hid (by rw [HR.out, HA.out]; simp [fl1, fl2, fl3, fl4])
        clear HR HA fl1 fl2 fl3 fl4
        go_enter Tryd.func39, Tryd.ntmps39
        go_wp2_with (first | (go_at_call 54; ((with_reducible refine (HT1.out _).mono ?_); rintro e wv1 ⟨rfl, hv1⟩; (have kv1 := heap_call hv1 kb0); (have kw1 := Blk.cell kv1))) | (go_at_call 55; ((with_reducible refine (HU.out _).mono ?_); rintro e wu ⟨rfl, rfl⟩)))
        go_ret
        exact ⟨by first | (rw [HF.out]; done) | (rw [HF.out]; rfl) | (rw [HF.out, ← HD.out]; rfl), by (refine bel_out ?_; (focus (repeat' first | (with_reducible refine bel_refl ?_) | with_reducible assumption | with_reducible refine bel_drew ?_ | with_reducible refine bel_drewN _ ?_ | with_reducible refine bel_alloc _ ?_ | with_reducible refine bel_set ?_ _ ?_ | (with_reducible apply bel_call; with_reducible assumption) | (with_reducible apply bel_owg; with_reducible assumption; (focus omega)) | with_reducible exact Nat.le_refl _ | omega | (simp; done) | (simp; omega))))⟩
      | true =>
        by_cases g : us.size = 0
        · obtain ⟨q1, q2, q3⟩ := str_e g
          have HF : Hid (R = false) := Lib.hid (by rw [HR.out, HA.out]; simp [fl1, fl2, fl3, fl4, g])
          clear HR HA fl1 fl2 fl3 fl4 g
          go_enter Tryd.func39, Tryd.ntmps39
          go_wp2_with (first | (go_at_call 54; ((with_reducible refine (HT1.out _).mono ?_); rintro e wv1 ⟨rfl, hv1⟩; (have kv1 := heap_call hv1 kb0); (have kw1 := Blk.cell kv1))) | (go_at_call 55; ((with_reducible refine (HU.out _).mono ?_); rintro e wu ⟨rfl, rfl⟩)))
          go_ret
          exact ⟨by first | (rw [HF.out]; done) | (rw [HF.out]; rfl) | (rw [HF.out, ← HD.out]; rfl), by (refine bel_out ?_; (focus (repeat' first | (with_reducible refine bel_refl ?_) | with_reducible assumption | with_reducible refine bel_drew ?_ | with_reducible refine bel_drewN _ ?_ | with_reducible refine bel_alloc _ ?_ | with_reducible refine bel_set ?_ _ ?_ | (with_reducible apply bel_call; with_reducible assumption) | (with_reducible apply bel_owg; with_reducible assumption; (focus omega)) | with_reducible exact Nat.le_refl _ | omega | (simp; done) | (simp; omega))))⟩
        · obtain ⟨q1, q2, q3, q4⟩ := str_ne g
          have HF : Hid (R = true) := Lib.hid (by rw [HR.out, HA.out]; simp [fl1, fl2, fl3, fl4, g])
          clear HR HA fl1 fl2 fl3 fl4 g
          go_enter Tryd.func39, Tryd.ntmps39
          go_wp2_with (first | (go_at_call 54; ((with_reducible refine (HT1.out _).mono ?_); rintro e wv1 ⟨rfl, hv1⟩; (have kv1 := heap_call hv1 kb0); (have kw1 := Blk.cell kv1))) | (go_at_call 55; ((with_reducible refine (HU.out _).mono ?_); rintro e wu ⟨rfl, rfl⟩)))
          go_ret
          exact ⟨by first | (rw [HF.out]; done) | (rw [HF.out]; rfl) | (rw [HF.out, ← HD.out]; rfl), by (refine bel_out ?_; (focus (repeat' first | (with_reducible refine bel_refl ?_) | with_reducible assumption | with_reducible refine bel_drew ?_ | with_reducible refine bel_drewN _ ?_ | with_reducible refine bel_alloc _ ?_ | with_reducible refine bel_set ?_ _ ?_ | (with_reducible apply bel_call; with_reducible assumption) | (with_reducible apply bel_owg; with_reducible assumption; (focus omega)) | with_reducible exact Nat.le_refl _ | omega | (simp; done) | (simp; omega))))⟩
  · have fl1 : fT 9 = true := rfl
    have fl2 : fO 9 = false := rfl
    have fl3 : fK 9 = true := rfl
    have fl4 : fH 9 = false := rfl
    have l1 : loB 9 = 0 := rfl
    have l2 : hiB 9 = 40 := rfl
    cases b1 with
    | false =>
      have HF : Hid (R = false) := Lib.hid (by rw [HR.out, HA.out]; simp [fl1, fl2, fl3, fl4, l1, l2])
      clear HR HA fl1 fl2 fl3 fl4 l1 l2
      go_enter Tryd.func39, Tryd.ntmps39
      go_wp2_with (first | (go_at_call 54; ((with_reducible refine (HT1.out _).mono ?_); rintro e wv1 ⟨rfl, hv1⟩; (have kv1 := heap_call hv1 kb0); (have kw1 := Blk.cell kv1))))
      go_ret
      exact ⟨by first | (rw [HF.out]; done) | (rw [HF.out]; rfl) | (rw [HF.out, ← HD.out]; rfl), by (refine bel_out ?_; (focus (repeat' first | (with_reducible refine bel_refl ?_) | with_reducible assumption | with_reducible refine bel_drew ?_ | with_reducible refine bel_drewN _ ?_ | with_reducible refine bel_alloc _ ?_ | with_reducible refine bel_set ?_ _ ?_ | (with_reducible apply bel_call; with_reducible assumption) | (with_reducible apply bel_owg; with_reducible assumption; (focus omega)) | with_reducible exact Nat.le_refl _ | omega | (simp; done) | (simp; omega))))⟩
    | true =>
      cases b3 with
      | false =>
        have HF : Hid (R = false) := Lib.hid (by rw [HR.out, HA.out]; simp [fl1, fl2, fl3, fl4, l1, l2])
        clear HR HA fl1 fl2 fl3 fl4 l1 l2
        go_enter Tryd.func39, Tryd.ntmps39
        go_wp2_with (first | (go_at_call 54; ((with_reducible refine (HT1.out _).mono ?_); rintro e wv1 ⟨rfl, hv1⟩; (have kv1 := heap_call hv1 kb0); (have kw1 := Blk.cell kv1))) | (go_at_call 55; ((with_reducible refine (HU.out _).mono ?_); rintro e wu ⟨rfl, rfl⟩)))
        go_ret
        exact ⟨by first | (rw [HF.out]; done) | (rw [HF.out]; rfl) | (rw [HF.out, ← HD.out]; rfl), by (refine bel_out ?_; (focus (repeat' first | (with_reducible refine bel_refl ?_) | with_reducible assumption | with_reducible refine bel_drew ?_ | with_reducible refine bel_drewN _ ?_ | with_reducible refine bel_alloc _ ?_ | with_reducible refine bel_set ?_ _ ?_ | (with_reducible apply bel_call; with_reducible assumption) | (with_reducible apply bel_owg; with_reducible assumption; (focus omega)) | with_reducible exact Nat.le_refl _ | omega | (simp; done) | (simp; omega))))⟩
      | true =>
        by_cases g1 : z < 0
        · have g2 : ¬ (0 ≤ z ∧ z ≤ 40) := by omega
          have e1 : ¬ ((0 : Int) ≤ z) := by omega
          have g4 : (decide (0 ≤ z) && decide (z ≤ 40)) = false := by rw [← Bool.decide_and]; exact decide_eq_false g2
          clear g1
          have HF : Hid (R = false) := Lib.hid (by rw [HR.out, HA.out]; simp [fl1, fl2, fl3, fl4, l1, l2, g2, g4])
          clear HR HA fl1 fl2 fl3 fl4 l1 l2 g2 g4
          go_enter Tryd.func39, Tryd.ntmps39
          go_wp2_with (first | (go_at_call 54; ((with_reducible refine (HT1.out _).mono ?_); rintro e wv1 ⟨rfl, hv1⟩; (have kv1 := heap_call hv1 kb0); (have kw1 := Blk.cell kv1))) | (go_at_call 55; ((with_reducible refine (HU.out _).mono ?_); rintro e wu ⟨rfl, rfl⟩)))
          go_ret
          exact ⟨by first | (rw [HF.out]; done) | (rw [HF.out]; rfl) | (rw [HF.out, ← HD.out]; rfl), by (refine bel_out ?_; (focus (repeat' first | (with_reducible refine bel_refl ?_) | with_reducible assumption | with_reducible refine bel_drew ?_ | with_reducible refine bel_drewN _ ?_ | with_reducible refine bel_alloc _ ?_ | with_reducible refine bel_set ?_ _ ?_ | (with_reducible apply bel_call; with_reducible assumption) | (with_reducible apply bel_owg; with_reducible assumption; (focus omega)) | with_reducible exact Nat.le_refl _ | omega | (simp; done) | (simp; omega))))⟩
        · by_cases g3 : 40 < z
          · have g2 : ¬ (0 ≤ z ∧ z ≤ 40) := by omega
            have e1 : (0 : Int) ≤ z := by omega
            have e2 : ¬ z ≤ (40 : Int) := by omega
            have g4 : (decide (0 ≤ z) && decide (z ≤ 40)) = false := by rw [← Bool.decide_and]; exact decide_eq_false g2
            have HD : Hid (decide (z ≤ 40) = false) := Lib.hid (decide_eq_false e2)
            clear g1 g3
            have HF : Hid (R = false) := Lib.hid (by rw [HR.out, HA.out]; simp [fl1, fl2, fl3, fl4, l1, l2, g2, g4])
            clear HR HA fl1 fl2 fl3 fl4 l1 l2 g2 g4
            go_enter Tryd.func39, Tryd.ntmps39
            go_wp2_with (first | (go_at_call 54; ((with_reducible refine (HT1.out _).mono ?_); rintro e wv1 ⟨rfl, hv1⟩; (have kv1 := heap_call hv1 kb0); (have kw1 := Blk.cell kv1))) | (go_at_call 55; ((with_reducible refine (HU.out _).mono ?_); rintro e wu ⟨rfl, rfl⟩)))
            go_ret
            exact ⟨by first | (rw [HF.out]; done) | (rw [HF.out]; rfl) | (rw [HF.out, ← HD.out]; rfl), by (refine bel_out ?_; (focus (repeat' first | (with_reducible refine bel_refl ?_) | with_reducible assumption | with_reducible refine bel_drew ?_ | with_reducible refine bel_drewN _ ?_ | with_reducible refine bel_alloc _ ?_ | with_reducible refine bel_set ?_ _ ?_ | (with_reducible apply bel_call; with_reducible assumption) | (with_reducible apply bel_owg; with_reducible assumption; (focus omega)) | with_reducible exact Nat.le_refl _ | omega | (simp; done) | (simp; omega))))⟩
          · have g2 : 0 ≤ z ∧ z ≤ 40 := by omega
            have e1 : (0 : Int) ≤ z := by omega
            have e2 : z ≤ (40 : Int) := by omega
            clear g1 g3
            have HF : Hid (R = true) := Lib.hid (by rw [HR.out, HA.out]; simp [fl1, fl2, fl3, fl4, l1, l2, g2])
            clear HR HA fl1 fl2 fl3 fl4 l1 l2 g2
            go_enter Tryd.func39, Tryd.ntmps39
            go_wp2_with (first | (go_at_call 54; ((with_reducible refine (HT1.out _).mono ?_); rintro e wv1 ⟨rfl, hv1⟩; (have kv1 := heap_call hv1 kb0); (have kw1 := Blk.cell kv1))) | (go_at_call 55; ((with_reducible refine (HU.out _).mono ?_); rintro e wu ⟨rfl, rfl⟩)))
            go_ret
            exact ⟨by first | (rw [HF.out]; done) | (rw [HF.out]; rfl) | (rw [HF.out, ← HD.out]; rfl), by (refine bel_out ?_; (focus (repeat' first | (with_reducible refine bel_refl ?_) | with_reducible assumption | with_reducible refine bel_drew ?_ | with_reducible refine bel_drewN _ ?_ | with_reducible refine bel_alloc _ ?_ | with_reducible refine bel_set ?_ _ ?_ | (with_reducible apply bel_call; with_reducible assumption) | (with_reducible apply bel_owg; with_reducible assumption; (focus omega)) | with_reducible exact Nat.le_refl _ | omega | (simp; done) | (simp; omega))))⟩
  · have fl1 : fT 10 = false := rfl
    have fl2 : fO 10 = false := rfl
    have fl3 : fK 10 = true := rfl
    have fl4 : fH 10 = false := rfl
    have l1 : loB 10 = 1 := rfl
    have l2 : hiB 10 = 1073741824 := rfl
    cases b3 with
    | false =>
      have HF : Hid (R = false) := Lib.hid (by rw [HR.out, HA.out]; simp [fl1, fl2, fl3, fl4, l1, l2])
      clear HR HA fl1 fl2 fl3 fl4 l1 l2
      go_enter Tryd.func39, Tryd.ntmps39
      go_wp2_with (first | (go_at_call 55; ((with_reducible refine (HU.out _).mono ?_); rintro e wu ⟨rfl, rfl⟩)))
      go_ret
      exact ⟨by first | (rw [HF.out]; done) | (rw [HF.out]; rfl) | (rw [HF.out, ← HD.out]; rfl), by (refine bel_out ?_; (focus (repeat' first | (with_reducible refine bel_refl ?_) | with_reducible assumption | with_reducible refine bel_drew ?_ | with_reducible refine bel_drewN _ ?_ | with_reducible refine bel_alloc _ ?_ | with_reducible refine bel_set ?_ _ ?_ | (with_reducible apply bel_call; with_reducible assumption) | (with_reducible apply bel_owg; with_reducible assumption; (focus omega)) | with_reducible exact Nat.le_refl _ | omega | (simp; done) | (simp; omega))))⟩
    | true =>
      by_cases g1 : z < 1
      · have g2 : ¬ (1 ≤ z ∧ z ≤ 1073741824) := by omega
        have e1 : ¬ ((1 : Int) ≤ z) := by omega
        have g4 : (decide (1 ≤ z) && decide (z ≤ 1073741824)) = false := by rw [← Bool.decide_and]; exact decide_eq_false g2
        clear g1
        have HF : Hid (R = false) := Lib.hid (by rw [HR.out, HA.out]; simp [fl1, fl2, fl3, fl4, l1, l2, g2, g4])
        clear HR HA fl1 fl2 fl3 fl4 l1 l2 g2 g4
        go_enter Tryd.func39, Tryd.ntmps39
        go_wp2_with (first | (go_at_call 55; ((with_reducible refine (HU.out _).mono ?_); rintro e wu ⟨rfl, rfl⟩)))
        go_ret
        exact ⟨by first | (rw [HF.out]; done) | (rw [HF.out]; rfl) | (rw [HF.out, ← HD.out]; rfl), by (refine bel_out ?_; (focus (repeat' first | (with_reducible refine bel_refl ?_) | with_reducible assumption | with_reducible refine bel_drew ?_ | with_reducible refine bel_drewN _ ?_ | with_reducible refine bel_alloc _ ?_ | with_reducible refine bel_set ?_ _ ?_ | (with_reducible apply bel_call; with_reducible assumption) | (with_reducible apply bel_owg; with_reducible assumption; (focus omega)) | with_reducible exact Nat.le_refl _ | omega | (simp; done) | (simp; omega))))⟩
      · by_cases g3 : 1073741824 < z
        · have g2 : ¬ (1 ≤ z ∧ z ≤ 1073741824) := by omega
          have e1 : (1 : Int) ≤ z := by omega
          have e2 : ¬ z ≤ (1073741824 : Int) := by omega
          have g4 : (decide (1 ≤ z) && decide (z ≤ 1073741824)) = false := by rw [← Bool.decide_and]; exact decide_eq_false g2
          have HD : Hid (decide (z ≤ 1073741824) = false) := Lib.hid (decide_eq_false e2)
          clear g1 g3
          have HF : Hid (R = false) := Lib.hid (by rw [HR.out, HA.out]; simp [fl1, fl2, fl3, fl4, l1, l2, g2, g4])
          clear HR HA fl1 fl2 fl3 fl4 l1 l2 g2 g4
          go_enter Tryd.func39, Tryd.ntmps39
          go_wp2_with (first | (go_at_call 55; ((with_reducible refine (HU.out _).mono ?_); rintro e wu ⟨rfl, rfl⟩)))
          go_ret
          exact ⟨by first | (rw [HF.out]; done) | (rw [HF.out]; rfl) | (rw [HF.out, ← HD.out]; rfl), by (refine bel_out ?_; (focus (repeat' first | (with_reducible refine bel_refl ?_) | with_reducible assumption | with_reducible refine bel_drew ?_ | with_reducible refine bel_drewN _ ?_ | with_reducible refine bel_alloc _ ?_ | with_reducible refine bel_set ?_ _ ?_ | (with_reducible apply bel_call; with_reducible assumption) | (with_reducible apply bel_owg; with_reducible assumption; (focus omega)) | with_reducible exact Nat.le_refl _ | omega | (simp; done) | (simp; omega))))⟩
        · have g2 : 1 ≤ z ∧ z ≤ 1073741824 := by omega
          have e1 : (1 : Int) ≤ z := by omega
          have e2 : z ≤ (1073741824 : Int) := by omega
          clear g1 g3
          have HF : Hid (R = true) := Lib.hid (by rw [HR.out, HA.out]; simp [fl1, fl2, fl3, fl4, l1, l2, g2])
          clear HR HA fl1 fl2 fl3 fl4 l1 l2 g2
          go_enter Tryd.func39, Tryd.ntmps39
          go_wp2_with (first | (go_at_call 55; ((with_reducible refine (HU.out _).mono ?_); rintro e wu ⟨rfl, rfl⟩)))
          go_ret
          exact ⟨by first | (rw [HF.out]; done) | (rw [HF.out]; rfl) | (rw [HF.out, ← HD.out]; rfl), by (refine bel_out ?_; (focus (repeat' first | (with_reducible refine bel_refl ?_) | with_reducible assumption | with_reducible refine bel_drew ?_ | with_reducible refine bel_drewN _ ?_ | with_reducible refine bel_alloc _ ?_ | with_reducible refine bel_set ?_ _ ?_ | (with_reducible apply bel_call; with_reducible assumption) | (with_reducible apply bel_owg; with_reducible assumption; (focus omega)) | with_reducible exact Nat.le_refl _ | omega | (simp; done) | (simp; omega))))⟩

set_option maxRecDepth 100000 in
set_option maxHeartbeats 16000000 in
theorem rvalid_any (c : Cg) (A : Option Addr) (n cp : Nat) (w : World) (h : RdR RV 6 w A n cp c.hs) (hwf : ∀ r ∈ c.hs, RvWf r) :
    Calls Tryd.prog 21 #[cval c A n cp] w fun e w' => e = .returned (.int .i64 (cv c)) ∧ Below w.heap.size w w' := by
  have HFM := Lib.hid fun (W : World) => rform_any c A n cp W h.len
  cases hV : (fV c.kd && frm c) with
  | false =>
    have HF : Hid (cv c = 7) := Lib.hid (cv_7 (by cases h1 : fV c.kd with
      | false => exact .inl rfl
      | true => rw [h1] at hV; exact .inr (by simpa using hV)))
    rw [hV] at HFM
    clear h hwf hV
    obtain ⟨kd, us, nt, ts, tn, os, on, tx, z, hs⟩ := c
    unfold cval at *
    simp only [] at HFM
    go_enter Tryd.func21, Tryd.ntmps21
    go_wp2_with (go_at_call 38; go_must (refine (HFM.out _).mono ?_; rintro e w1 ⟨rfl, hb1⟩))
    go_ret
    exact ⟨by first | (rw [HF.out]; done) | (rw [HF.out]; rfl), by (refine bel_out ?_; (focus (repeat' first | (with_reducible refine bel_refl ?_) | with_reducible assumption | with_reducible refine bel_drew ?_ | with_reducible refine bel_drewN _ ?_ | with_reducible refine bel_alloc _ ?_ | with_reducible refine bel_set ?_ _ ?_ | (with_reducible apply bel_call; with_reducible assumption) | (with_reducible apply bel_owg; with_reducible assumption; (focus omega)) | with_reducible exact Nat.le_refl _ | omega | (simp; done) | (simp; omega))))⟩
  | true =>
    have hV2 := hV
    rw [Bool.and_eq_true] at hV2
    have hk : 1 ≤ c.kd ∧ c.kd ≤ 10 := of_decide_eq_true hV2.1
    have HRG := Lib.hid fun (W : World) (hW : Below w.heap.size w W) => rwithin_any c A n cp W (RdV.below h hW) hwf hk
    have HO := Lib.hid fun (h0 : 0 < n) => RdV.opened h h0
    have HL := Lib.hid h.len
    have hmax : n ≤ maxLen := Nat.le_trans h.cap h.max
    unfold maxLen at hmax
    have H2 := Lib.hid (fun e => cv_2 (c := c) hV2.1 hV2.2 e)
    have H3 := Lib.hid (fun e => cv_3 (c := c) hV2.1 hV2.2 e)
    have H4 := Lib.hid (fun e => cv_4 (c := c) hV2.1 hV2.2 e)
    rw [hV] at HFM
    clear h hwf hk hV hV2
    generalize cv c = V at *
    generalize rng c = b2 at *
    have HG : Hid (bigC c = (decide (8192 < c.tx.size) || decide (200 < c.nt.size))) := Lib.hid rfl
    generalize bigC c = b3 at *
    obtain ⟨kd, us, nt, ts, tn, os, on, tx, z, hs⟩ := c
    unfold cval at *
    simp only [] at HFM HRG HO HL H4 HG
    go_enter Tryd.func21, Tryd.ntmps21
    go_wp2_with fail
    go_at_call 38
    refine (HFM.out _).mono ?_
    rintro e w1 ⟨rfl, hb1⟩
    have ka1 := heap_call hb1 (heap_new (w := w) (cs := #[.int .i64 kd, .string us, .string nt, .int .i64 ts, .string tn, .int .i64 os, .string on, .string tx, .int .i64 z, .slice A n cp]) (t := 31) rfl)
    have hb01 : Below w.heap.size w w1 := by (refine bel_out ?_; (focus (repeat' first | (with_reducible refine bel_refl ?_) | with_reducible assumption | with_reducible refine bel_drew ?_ | with_reducible refine bel_drewN _ ?_ | with_reducible refine bel_alloc _ ?_ | with_reducible refine bel_set ?_ _ ?_ | (with_reducible apply bel_call; with_reducible assumption) | (with_reducible apply bel_owg; with_reducible assumption; (focus omega)) | with_reducible exact Nat.le_refl _ | omega | (simp; done) | (simp; omega))))
    have kc1 := Blk.cell ka1
    clear HFM hb1
    have ARM : True := trivial
    cases b2 with
    | false =>
      have HF := Lib.hid (H2.out rfl)
      go_wp2_with (go_at_call 39; go_must (refine (HRG.out _ hb01).mono ?_; rintro e w4 ⟨rfl, hb4⟩))
      go_ret
      exact ⟨by first | (rw [HF.out]; done) | (rw [HF.out]; rfl), below_call hb01 hb4⟩
    | true =>
      by_cases g1 : 8192 < tx.size
      · have HF := Lib.hid (H3.out rfl (by rw [HG.out, decide_eq_true g1]; rfl))
        have e1 : (8192 : Int) < (tx.size : Int) := by omega
        clear HG g1
        go_wp2_with (go_at_call 39; go_must (refine (HRG.out _ hb01).mono ?_; rintro e w4 ⟨rfl, hb4⟩; (have kd3 := Blk.cell (heap_call hb4 ka1))))
        go_ret
        exact ⟨by first | (rw [HF.out]; done) | (rw [HF.out]; rfl), below_call hb01 hb4⟩
      by_cases g2 : 200 < nt.size
      · have HF := Lib.hid (H3.out rfl (by rw [HG.out, decide_eq_true g2, Bool.or_true]))
        have e1 : ¬ (8192 : Int) < (tx.size : Int) := by omega
        have e2 : (200 : Int) < (nt.size : Int) := by omega
        clear HG g1 g2
        go_wp2_with (go_at_call 39; go_must (refine (HRG.out _ hb01).mono ?_; rintro e w4 ⟨rfl, hb4⟩; (have kd3 := Blk.cell (heap_call hb4 ka1))))
        go_ret
        exact ⟨by first | (rw [HF.out]; done) | (rw [HF.out]; rfl), below_call hb01 hb4⟩
      have HV := Lib.hid (H4.out rfl (by rw [HG.out, decide_eq_false g1, decide_eq_false g2]; rfl))
      have e1 : ¬ (8192 : Int) < (tx.size : Int) := by omega
      have e2 : ¬ (200 : Int) < (nt.size : Int) := by omega
      clear HG g1 g2 H2 H3 H4
      go_wp2_with (go_at_call 39; go_must (refine (HRG.out _ hb01).mono ?_; rintro e w4 ⟨rfl, hb4⟩; (have kd3 := Blk.cell (heap_call hb4 ka1))))
      have k4 := heap_call hb4 ka1
      have hb04 := below_call hb01 hb4
      clear kc1 ka1 hb01 HRG kd3 hb4
      go_loopw [3] (fun v wr => ∃ k : Nat, k ≤ n ∧ v = .int .i64 k ∧ Below w4.heap.size w4 wr ∧ Hid (∀ j, j < k → bigR (hs.getD j rv0) = false)) (fun v _ => n - (intOf v).toNat)
      case atStart => exact ⟨0, Nat.zero_le _, rfl, Below.refl _ _, Lib.hid fun j h => by omega⟩
      case round =>
        obtain ⟨k, hk, rfl, hb4r, HB⟩ := hrel
        have kr := heap_call hb4r k4
        have kc := Blk.cell kr
        have hbw := below_call hb04 hb4r
        clear e1 e2
        by_cases hlt : k < n
        · obtain ⟨b, off, rfl, hb, hc⟩ := HO.out (by omega)
          obtain ⟨x0, x1, x2, x3, x4, x5⟩ := hc k hlt
          have kl : k < hs.length := by rw [← HL.out]; exact hlt
          have c2 := (hbw.cell (p := ⟨b, off + k * 6 + 2, none⟩) hb).trans x2
          have c3 := (hbw.cell (p := ⟨b, off + k * 6 + 3, none⟩) hb).trans x3
          have HN := Lib.hid (fun e => bigs_hit (L := hs) kl e)
          have HG : Hid (bigR (hs.getD k rv0) = (decide (8192 < (hs.getD k rv0).tx.size) || decide (200 < (hs.getD k rv0).nt.size))) := Lib.hid rfl
          have HS : Hid (bigR (hs.getD k rv0) = false → ∀ j, j < k + 1 → bigR (hs.getD j rv0) = false) := Lib.hid fun h j hj => by
            rcases Nat.lt_or_ge j k with h1 | h1
            · exact HB.out j h1
            · obtain rfl : j = k := by omega
              exact h
          clear x0 x1 x2 x3 x4 x5 hc HB HO
          generalize bigR (hs.getD k rv0) = bb at *
          generalize hs.getD k rv0 = r at *
          obtain ⟨num, us', nt', tx', mi, sq⟩ := r
          simp only [] at c2 c3 HG
          have z0 : (0 : Int) ≤ (k : Int) := by omega
          have z1 : (k : Int) < (n : Int) := by omega
          have HBA := Lib.hid hbw
          by_cases g1 : 8192 < tx'.size
          · have HF : Hid (V = 3) := Lib.hid (by rw [HV.out, if_pos (HN.out (by rw [HG.out, decide_eq_true g1]; rfl))])
            have e1 : (8192 : Int) < (tx'.size : Int) := by omega
            clear HN HG HS g1 HV
            go_wp2_with fail
            go_ret
            exact ⟨by first | (rw [HF.out]; done) | (rw [HF.out]; rfl), HBA.out⟩
          by_cases g2 : 200 < nt'.size
          · have HF : Hid (V = 3) := Lib.hid (by rw [HV.out, if_pos (HN.out (by rw [HG.out, decide_eq_true g2, Bool.or_true]))])
            have e1 : ¬ (8192 : Int) < (tx'.size : Int) := by omega
            have e2 : (200 : Int) < (nt'.size : Int) := by omega
            clear HN HG HS g1 g2 HV
            go_wp2_with fail
            go_ret
            exact ⟨by first | (rw [HF.out]; done) | (rw [HF.out]; rfl), HBA.out⟩
          have HS2 := Lib.hid (HS.out (by rw [HG.out, decide_eq_false g1, decide_eq_false g2]; rfl))
          have e1 : ¬ (8192 : Int) < (tx'.size : Int) := by omega
          have e2 : ¬ (200 : Int) < (nt'.size : Int) := by omega
          clear HN HG HS g1 g2
          go_wp2_with fail
          go_roundw
          case rel => exact ⟨k + 1, by omega, by go_num, hb4r, HS2⟩
          case measure => simp [intOf]; omega
        · obtain rfl : k = n := by omega
          have HF : Hid (V = 0) := Lib.hid (by rw [HV.out, if_neg (by rw [bigs_miss (by rw [← HL.out]; exact HB.out)]; decide)])
          clear HV
          go_wp2_with fail
          go_ret
          exact ⟨by first | (rw [HF.out]; done) | (rw [HF.out]; rfl), hbw⟩
end Go.Proofs.YtbeijpajodgpeaaDoor
