/- The walk of trcref26.form. Printed by gen_c7.py -/
import Derived.Test.YtbeijpajodgpeaaDoorM3
namespace Go.Proofs.YtbeijpajodgpeaaDoor
open Go.RowKit
set_option linter.unusedSimpArgs false
set_option linter.unusedVariables false
/-- whether a change has the fields of its kind only -/
def RFm (c : Cg) (w : World) (e : Ending) (w' : World) : Prop := e = .returned (.bool (fV c.kd && frm c)) ∧ Below w.heap.size w w'
set_option maxRecDepth 100000 in
set_option maxHeartbeats 4000000 in
theorem rform_no (c : Cg) (A : Option Addr) (n cp : Nat) (w : World) (hkd : ¬ (1 ≤ c.kd ∧ c.kd ≤ 10)) :
    Calls Tryd.prog 38 #[cval c A n cp] w (RFm c w) := by
  obtain ⟨kd, us, nt, ts, tn, os, on, tx, z, hs⟩ := c
  unfold cval RFm
  have HF : Hid ((fV kd && frm ⟨kd, us, nt, ts, tn, os, on, tx, z, hs⟩) = false) := Lib.hid (by rw [show fV kd = false from decide_eq_false hkd]; rfl)
  simp only [] at hkd
  have k1 : (kd == 1) = false := by simp; omega
  have m1 : (kd != 1) = true := by simp; omega
  have k4 : (kd == 4) = false := by simp; omega
  have m4 : (kd != 4) = true := by simp; omega
  have k5 : (kd == 5) = false := by simp; omega
  have m5 : (kd != 5) = true := by simp; omega
  have k6 : (kd == 6) = false := by simp; omega
  have m6 : (kd != 6) = true := by simp; omega
  have k9 : (kd == 9) = false := by simp; omega
  have m9 : (kd != 9) = true := by simp; omega
  have k10 : (kd == 10) = false := by simp; omega
  have m10 : (kd != 10) = true := by simp; omega
  by_cases l1 : kd < 1
  · clear hkd
    go_enter Tryd.func38, Tryd.ntmps38
    go_wp2
    go_ret
    exact ⟨by first | (rw [HF.out]; done) | (rw [HF.out]; rfl), by (refine bel_out ?_; (focus (repeat' first | (with_reducible refine bel_refl ?_) | with_reducible assumption | with_reducible refine bel_drew ?_ | with_reducible refine bel_drewN _ ?_ | with_reducible refine bel_alloc _ ?_ | with_reducible refine bel_set ?_ _ ?_ | (with_reducible apply bel_call; with_reducible assumption) | (with_reducible apply bel_owg; with_reducible assumption; (focus omega)) | with_reducible exact Nat.le_refl _ | omega | (simp; done) | (simp; omega))))⟩
  · have l2 : (10 : Int) < kd := by omega
    clear hkd
    go_enter Tryd.func38, Tryd.ntmps38
    go_wp2
    go_ret
    exact ⟨by first | (rw [HF.out]; done) | (rw [HF.out]; rfl), by (refine bel_out ?_; (focus (repeat' first | (with_reducible refine bel_refl ?_) | with_reducible assumption | with_reducible refine bel_drew ?_ | with_reducible refine bel_drewN _ ?_ | with_reducible refine bel_alloc _ ?_ | with_reducible refine bel_set ?_ _ ?_ | (with_reducible apply bel_call; with_reducible assumption) | (with_reducible apply bel_owg; with_reducible assumption; (focus omega)) | with_reducible exact Nat.le_refl _ | omega | (simp; done) | (simp; omega))))⟩
end Go.Proofs.YtbeijpajodgpeaaDoor
/- The walk of trcref26.form, C7a. Printed by gen_c7.py -/
namespace Go.Proofs.YtbeijpajodgpeaaDoor
open Go.RowKit
set_option linter.unusedSimpArgs false
set_option linter.unusedVariables false
set_option maxRecDepth 100000 in
set_option maxHeartbeats 16000000 in
theorem rform_1 (c : Cg) (A : Option Addr) (n cp : Nat) (w : World) (hn : n = c.hs.length) (hkd : c.kd = 1) :
    Calls Tryd.prog 38 #[cval c A n cp] w (RFm c w) := by
  have hgt := title_guard
  have hub : ∀ b : Bool, (some undef = some (Value.bool b)) = False := fun b => by simp [undef]
  have hub2 : ∀ b : Bool, (undef = Value.bool b) = False := fun b => by simp [undef]
  obtain ⟨kd, us, nt, ts, tn, os, on, tx, z, hs⟩ := c
  unfold cval RFm
  have HL := Lib.hid hn
  clear hn
  simp only [] at hkd HL
  subst hkd
  have hU : fU 1 = true := rfl
  have hN : fN 1 = true := rfl
  have hT : fT 1 = true := rfl
  have hO : fO 1 = false := rfl
  have hK : fK 1 = false := rfl
  have hH : fH 1 = false := rfl
  have hV : fV 1 = true := rfl
  by_cases hz : z = 0
  · have az : (z == 0) = true := by simpa using hz
    have bz : (z != 0) = false := by simpa using hz
    have yos := run_eq_title os on 0 ⟨#[]⟩
    have zos := run_neq_title os on 0 ⟨#[]⟩
    by_cases hos : os = 0 ∧ on.size = 0
    · rw [show decide (os = 0 ∧ on = ⟨#[]⟩) = true from decide_eq_true ⟨hos.1, ba_nil hos.2⟩] at yos zos
      by_cases hh : hs.length = 0
      · have ah : ((n : Int) == 0) = true := by rw [HL.out]; simpa using hh
        have HF : Hid ((fV 1 && frm ⟨1, us, nt, ts, tn, os, on, tx, z, hs⟩) = true) := Lib.hid (by first | (simp [frm, hU, hN, hT, hO, hK, hH, hV, hz, hos, hh]; done) | (simp [frm, hU, hN, hT, hO, hK, hH, hV, hz, hos, hh]; intros; simp_all))
        clear hU hN hT hO hK hH hV hz hos hh
        go_enter Tryd.func38, Tryd.ntmps38
        go_wp2
        go_ret
        exact ⟨by first | (rw [HF.out]; done) | (rw [HF.out]; rfl), by (refine bel_out ?_; (focus (repeat' first | (with_reducible refine bel_refl ?_) | with_reducible assumption | with_reducible refine bel_drew ?_ | with_reducible refine bel_drewN _ ?_ | with_reducible refine bel_alloc _ ?_ | with_reducible refine bel_set ?_ _ ?_ | (with_reducible apply bel_call; with_reducible assumption) | (with_reducible apply bel_owg; with_reducible assumption; (focus omega)) | with_reducible exact Nat.le_refl _ | omega | (simp; done) | (simp; omega))))⟩
      · have ah : ((n : Int) == 0) = false := by rw [HL.out]; simpa using hh
        have HF : Hid ((fV 1 && frm ⟨1, us, nt, ts, tn, os, on, tx, z, hs⟩) = false) := Lib.hid (by first | (simp [frm, hU, hN, hT, hO, hK, hH, hV, hz, hos, hh]; done) | (simp [frm, hU, hN, hT, hO, hK, hH, hV, hz, hos, hh]; intros; simp_all))
        clear hU hN hT hO hK hH hV hz hos hh
        go_enter Tryd.func38, Tryd.ntmps38
        go_wp2
        go_ret
        exact ⟨by first | (rw [HF.out]; done) | (rw [HF.out]; rfl), by (refine bel_out ?_; (focus (repeat' first | (with_reducible refine bel_refl ?_) | with_reducible assumption | with_reducible refine bel_drew ?_ | with_reducible refine bel_drewN _ ?_ | with_reducible refine bel_alloc _ ?_ | with_reducible refine bel_set ?_ _ ?_ | (with_reducible apply bel_call; with_reducible assumption) | (with_reducible apply bel_owg; with_reducible assumption; (focus omega)) | with_reducible exact Nat.le_refl _ | omega | (simp; done) | (simp; omega))))⟩
    · rw [show decide (os = 0 ∧ on = ⟨#[]⟩) = false from decide_eq_false (fun e => hos ⟨e.1, by rw [e.2]; rfl⟩)] at yos zos
      have gos : (os == 0 && decide (on.size = 0)) = false := by rw [Bool.eq_false_iff]; intro e; rw [Bool.and_eq_true] at e; exact hos ⟨by simpa using e.1, of_decide_eq_true e.2⟩
      have HF : Hid ((fV 1 && frm ⟨1, us, nt, ts, tn, os, on, tx, z, hs⟩) = false) := Lib.hid (by first | (simp [frm, hU, hN, hT, hO, hK, hH, hV, hz, hos]; done) | (simp [frm, hU, hN, hT, hO, hK, hH, hV, hz, hos]; intros; simp_all))
      clear hU hN hT hO hK hH hV hz hos
      go_enter Tryd.func38, Tryd.ntmps38
      go_wp2
      go_ret
      exact ⟨by first | (rw [HF.out]; done) | (rw [HF.out]; rfl), by (refine bel_out ?_; (focus (repeat' first | (with_reducible refine bel_refl ?_) | with_reducible assumption | with_reducible refine bel_drew ?_ | with_reducible refine bel_drewN _ ?_ | with_reducible refine bel_alloc _ ?_ | with_reducible refine bel_set ?_ _ ?_ | (with_reducible apply bel_call; with_reducible assumption) | (with_reducible apply bel_owg; with_reducible assumption; (focus omega)) | with_reducible exact Nat.le_refl _ | omega | (simp; done) | (simp; omega))))⟩
  · have az : (z == 0) = false := by simpa using hz
    have bz : (z != 0) = true := by simpa using hz
    have HF : Hid ((fV 1 && frm ⟨1, us, nt, ts, tn, os, on, tx, z, hs⟩) = false) := Lib.hid (by first | (simp [frm, hU, hN, hT, hO, hK, hH, hV, hz]; done) | (simp [frm, hU, hN, hT, hO, hK, hH, hV, hz]; intros; simp_all))
    clear hU hN hT hO hK hH hV hz
    go_enter Tryd.func38, Tryd.ntmps38
    go_wp2
    go_ret
    exact ⟨by first | (rw [HF.out]; done) | (rw [HF.out]; rfl), by (refine bel_out ?_; (focus (repeat' first | (with_reducible refine bel_refl ?_) | with_reducible assumption | with_reducible refine bel_drew ?_ | with_reducible refine bel_drewN _ ?_ | with_reducible refine bel_alloc _ ?_ | with_reducible refine bel_set ?_ _ ?_ | (with_reducible apply bel_call; with_reducible assumption) | (with_reducible apply bel_owg; with_reducible assumption; (focus omega)) | with_reducible exact Nat.le_refl _ | omega | (simp; done) | (simp; omega))))⟩
set_option maxRecDepth 100000 in
set_option maxHeartbeats 16000000 in
theorem rform_2 (c : Cg) (A : Option Addr) (n cp : Nat) (w : World) (hn : n = c.hs.length) (hkd : c.kd = 2 ∨ c.kd = 3 ∨ c.kd = 7 ∨ c.kd = 8) :
    Calls Tryd.prog 38 #[cval c A n cp] w (RFm c w) := by
  have hgt := title_guard
  have hub : ∀ b : Bool, (some undef = some (Value.bool b)) = False := fun b => by simp [undef]
  have hub2 : ∀ b : Bool, (undef = Value.bool b) = False := fun b => by simp [undef]
  obtain ⟨kd, us, nt, ts, tn, os, on, tx, z, hs⟩ := c
  unfold cval RFm
  have HL := Lib.hid hn
  clear hn
  simp only [] at hkd HL
  have hU : fU kd = true := by rcases hkd with rfl | rfl | rfl | rfl <;> rfl
  have hN : fN kd = false := by rcases hkd with rfl | rfl | rfl | rfl <;> rfl
  have hT : fT kd = true := by rcases hkd with rfl | rfl | rfl | rfl <;> rfl
  have hO : fO kd = false := by rcases hkd with rfl | rfl | rfl | rfl <;> rfl
  have hK : fK kd = false := by rcases hkd with rfl | rfl | rfl | rfl <;> rfl
  have hH : fH kd = false := by rcases hkd with rfl | rfl | rfl | rfl <;> rfl
  have hV : fV kd = true := by rcases hkd with rfl | rfl | rfl | rfl <;> rfl
  have k1 : (kd == 1) = false := by rcases hkd with rfl | rfl | rfl | rfl <;> rfl
  have m1 : (kd != 1) = true := by rcases hkd with rfl | rfl | rfl | rfl <;> rfl
  have k4 : (kd == 4) = false := by rcases hkd with rfl | rfl | rfl | rfl <;> rfl
  have m4 : (kd != 4) = true := by rcases hkd with rfl | rfl | rfl | rfl <;> rfl
  have k5 : (kd == 5) = false := by rcases hkd with rfl | rfl | rfl | rfl <;> rfl
  have m5 : (kd != 5) = true := by rcases hkd with rfl | rfl | rfl | rfl <;> rfl
  have k6 : (kd == 6) = false := by rcases hkd with rfl | rfl | rfl | rfl <;> rfl
  have m6 : (kd != 6) = true := by rcases hkd with rfl | rfl | rfl | rfl <;> rfl
  have k9 : (kd == 9) = false := by rcases hkd with rfl | rfl | rfl | rfl <;> rfl
  have m9 : (kd != 9) = true := by rcases hkd with rfl | rfl | rfl | rfl <;> rfl
  have k10 : (kd == 10) = false := by rcases hkd with rfl | rfl | rfl | rfl <;> rfl
  have m10 : (kd != 10) = true := by rcases hkd with rfl | rfl | rfl | rfl <;> rfl
  have l1 : ¬ kd < 1 := by omega
  have l2 : ¬ (10 : Int) < kd := by omega
  clear hkd
  by_cases hnt : nt.size = 0
  · obtain ⟨ant, bnt, cnt⟩ := str_e hnt
    by_cases htx : tx.size = 0
    · obtain ⟨atx, btx, ctx⟩ := str_e htx
      by_cases hz : z = 0
      · have az : (z == 0) = true := by simpa using hz
        have bz : (z != 0) = false := by simpa using hz
        have yos := run_eq_title os on 0 ⟨#[]⟩
        have zos := run_neq_title os on 0 ⟨#[]⟩
        by_cases hos : os = 0 ∧ on.size = 0
        · rw [show decide (os = 0 ∧ on = ⟨#[]⟩) = true from decide_eq_true ⟨hos.1, ba_nil hos.2⟩] at yos zos
          by_cases hh : hs.length = 0
          · have ah : ((n : Int) == 0) = true := by rw [HL.out]; simpa using hh
            have HF : Hid ((fV kd && frm ⟨kd, us, nt, ts, tn, os, on, tx, z, hs⟩) = true) := Lib.hid (by first | (simp [frm, hU, hN, hT, hO, hK, hH, hV, hnt, htx, hz, hos, hh]; done) | (simp [frm, hU, hN, hT, hO, hK, hH, hV, hnt, htx, hz, hos, hh]; intros; simp_all))
            clear hU hN hT hO hK hH hV hnt htx hz hos hh
            go_enter Tryd.func38, Tryd.ntmps38
            go_wp2
            go_ret
            exact ⟨by first | (rw [HF.out]; done) | (rw [HF.out]; rfl), by (refine bel_out ?_; (focus (repeat' first | (with_reducible refine bel_refl ?_) | with_reducible assumption | with_reducible refine bel_drew ?_ | with_reducible refine bel_drewN _ ?_ | with_reducible refine bel_alloc _ ?_ | with_reducible refine bel_set ?_ _ ?_ | (with_reducible apply bel_call; with_reducible assumption) | (with_reducible apply bel_owg; with_reducible assumption; (focus omega)) | with_reducible exact Nat.le_refl _ | omega | (simp; done) | (simp; omega))))⟩
          · have ah : ((n : Int) == 0) = false := by rw [HL.out]; simpa using hh
            have HF : Hid ((fV kd && frm ⟨kd, us, nt, ts, tn, os, on, tx, z, hs⟩) = false) := Lib.hid (by first | (simp [frm, hU, hN, hT, hO, hK, hH, hV, hnt, htx, hz, hos, hh]; done) | (simp [frm, hU, hN, hT, hO, hK, hH, hV, hnt, htx, hz, hos, hh]; intros; simp_all))
            clear hU hN hT hO hK hH hV hnt htx hz hos hh
            go_enter Tryd.func38, Tryd.ntmps38
            go_wp2
            go_ret
            exact ⟨by first | (rw [HF.out]; done) | (rw [HF.out]; rfl), by (refine bel_out ?_; (focus (repeat' first | (with_reducible refine bel_refl ?_) | with_reducible assumption | with_reducible refine bel_drew ?_ | with_reducible refine bel_drewN _ ?_ | with_reducible refine bel_alloc _ ?_ | with_reducible refine bel_set ?_ _ ?_ | (with_reducible apply bel_call; with_reducible assumption) | (with_reducible apply bel_owg; with_reducible assumption; (focus omega)) | with_reducible exact Nat.le_refl _ | omega | (simp; done) | (simp; omega))))⟩
        · rw [show decide (os = 0 ∧ on = ⟨#[]⟩) = false from decide_eq_false (fun e => hos ⟨e.1, by rw [e.2]; rfl⟩)] at yos zos
          have gos : (os == 0 && decide (on.size = 0)) = false := by rw [Bool.eq_false_iff]; intro e; rw [Bool.and_eq_true] at e; exact hos ⟨by simpa using e.1, of_decide_eq_true e.2⟩
          have HF : Hid ((fV kd && frm ⟨kd, us, nt, ts, tn, os, on, tx, z, hs⟩) = false) := Lib.hid (by first | (simp [frm, hU, hN, hT, hO, hK, hH, hV, hnt, htx, hz, hos]; done) | (simp [frm, hU, hN, hT, hO, hK, hH, hV, hnt, htx, hz, hos]; intros; simp_all))
          clear hU hN hT hO hK hH hV hnt htx hz hos
          go_enter Tryd.func38, Tryd.ntmps38
          go_wp2
          go_ret
          exact ⟨by first | (rw [HF.out]; done) | (rw [HF.out]; rfl), by (refine bel_out ?_; (focus (repeat' first | (with_reducible refine bel_refl ?_) | with_reducible assumption | with_reducible refine bel_drew ?_ | with_reducible refine bel_drewN _ ?_ | with_reducible refine bel_alloc _ ?_ | with_reducible refine bel_set ?_ _ ?_ | (with_reducible apply bel_call; with_reducible assumption) | (with_reducible apply bel_owg; with_reducible assumption; (focus omega)) | with_reducible exact Nat.le_refl _ | omega | (simp; done) | (simp; omega))))⟩
      · have az : (z == 0) = false := by simpa using hz
        have bz : (z != 0) = true := by simpa using hz
        have HF : Hid ((fV kd && frm ⟨kd, us, nt, ts, tn, os, on, tx, z, hs⟩) = false) := Lib.hid (by first | (simp [frm, hU, hN, hT, hO, hK, hH, hV, hnt, htx, hz]; done) | (simp [frm, hU, hN, hT, hO, hK, hH, hV, hnt, htx, hz]; intros; simp_all))
        clear hU hN hT hO hK hH hV hnt htx hz
        go_enter Tryd.func38, Tryd.ntmps38
        go_wp2
        go_ret
        exact ⟨by first | (rw [HF.out]; done) | (rw [HF.out]; rfl), by (refine bel_out ?_; (focus (repeat' first | (with_reducible refine bel_refl ?_) | with_reducible assumption | with_reducible refine bel_drew ?_ | with_reducible refine bel_drewN _ ?_ | with_reducible refine bel_alloc _ ?_ | with_reducible refine bel_set ?_ _ ?_ | (with_reducible apply bel_call; with_reducible assumption) | (with_reducible apply bel_owg; with_reducible assumption; (focus omega)) | with_reducible exact Nat.le_refl _ | omega | (simp; done) | (simp; omega))))⟩
    · obtain ⟨atx, btx, ctx, dtx⟩ := str_ne htx
      have HF : Hid ((fV kd && frm ⟨kd, us, nt, ts, tn, os, on, tx, z, hs⟩) = false) := Lib.hid (by first | (simp [frm, hU, hN, hT, hO, hK, hH, hV, hnt, htx]; done) | (simp [frm, hU, hN, hT, hO, hK, hH, hV, hnt, htx]; intros; simp_all))
      clear hU hN hT hO hK hH hV hnt htx
      go_enter Tryd.func38, Tryd.ntmps38
      go_wp2
      go_ret
      exact ⟨by first | (rw [HF.out]; done) | (rw [HF.out]; rfl), by (refine bel_out ?_; (focus (repeat' first | (with_reducible refine bel_refl ?_) | with_reducible assumption | with_reducible refine bel_drew ?_ | with_reducible refine bel_drewN _ ?_ | with_reducible refine bel_alloc _ ?_ | with_reducible refine bel_set ?_ _ ?_ | (with_reducible apply bel_call; with_reducible assumption) | (with_reducible apply bel_owg; with_reducible assumption; (focus omega)) | with_reducible exact Nat.le_refl _ | omega | (simp; done) | (simp; omega))))⟩
  · obtain ⟨ant, bnt, cnt, dnt⟩ := str_ne hnt
    have HF : Hid ((fV kd && frm ⟨kd, us, nt, ts, tn, os, on, tx, z, hs⟩) = false) := Lib.hid (by first | (simp [frm, hU, hN, hT, hO, hK, hH, hV, hnt]; done) | (simp [frm, hU, hN, hT, hO, hK, hH, hV, hnt]; intros; simp_all))
    clear hU hN hT hO hK hH hV hnt
    go_enter Tryd.func38, Tryd.ntmps38
    go_wp2
    go_ret
    exact ⟨by first | (rw [HF.out]; done) | (rw [HF.out]; rfl), by (refine bel_out ?_; (focus (repeat' first | (with_reducible refine bel_refl ?_) | with_reducible assumption | with_reducible refine bel_drew ?_ | with_reducible refine bel_drewN _ ?_ | with_reducible refine bel_alloc _ ?_ | with_reducible refine bel_set ?_ _ ?_ | (with_reducible apply bel_call; with_reducible assumption) | (with_reducible apply bel_owg; with_reducible assumption; (focus omega)) | with_reducible exact Nat.le_refl _ | omega | (simp; done) | (simp; omega))))⟩
end Go.Proofs.YtbeijpajodgpeaaDoor
/- The walk of trcref26.form, C7b. Printed by gen_c7.py -/
namespace Go.Proofs.YtbeijpajodgpeaaDoor
open Go.RowKit
set_option linter.unusedSimpArgs false
set_option linter.unusedVariables false
set_option maxRecDepth 100000 in
set_option maxHeartbeats 16000000 in
theorem rform_4 (c : Cg) (A : Option Addr) (n cp : Nat) (w : World) (hn : n = c.hs.length) (hkd : c.kd = 4) :
    Calls Tryd.prog 38 #[cval c A n cp] w (RFm c w) := by
  have hgt := title_guard
  have hub : ∀ b : Bool, (some undef = some (Value.bool b)) = False := fun b => by simp [undef]
  have hub2 : ∀ b : Bool, (undef = Value.bool b) = False := fun b => by simp [undef]
  obtain ⟨kd, us, nt, ts, tn, os, on, tx, z, hs⟩ := c
  unfold cval RFm
  have HL := Lib.hid hn
  clear hn
  simp only [] at hkd HL
  subst hkd
  have hU : fU 4 = true := rfl
  have hN : fN 4 = false := rfl
  have hT : fT 4 = true := rfl
  have hO : fO 4 = true := rfl
  have hK : fK 4 = true := rfl
  have hH : fH 4 = false := rfl
  have hV : fV 4 = true := rfl
  by_cases hnt : nt.size = 0
  · obtain ⟨ant, bnt, cnt⟩ := str_e hnt
    by_cases htx : tx.size = 0
    · obtain ⟨atx, btx, ctx⟩ := str_e htx
      by_cases hh : hs.length = 0
      · have ah : ((n : Int) == 0) = true := by rw [HL.out]; simpa using hh
        have HF : Hid ((fV 4 && frm ⟨4, us, nt, ts, tn, os, on, tx, z, hs⟩) = true) := Lib.hid (by first | (simp [frm, hU, hN, hT, hO, hK, hH, hV, hnt, htx, hh]; done) | (simp [frm, hU, hN, hT, hO, hK, hH, hV, hnt, htx, hh]; intros; simp_all))
        clear hU hN hT hO hK hH hV hnt htx hh
        go_enter Tryd.func38, Tryd.ntmps38
        go_wp2
        go_ret
        exact ⟨by first | (rw [HF.out]; done) | (rw [HF.out]; rfl), by (refine bel_out ?_; (focus (repeat' first | (with_reducible refine bel_refl ?_) | with_reducible assumption | with_reducible refine bel_drew ?_ | with_reducible refine bel_drewN _ ?_ | with_reducible refine bel_alloc _ ?_ | with_reducible refine bel_set ?_ _ ?_ | (with_reducible apply bel_call; with_reducible assumption) | (with_reducible apply bel_owg; with_reducible assumption; (focus omega)) | with_reducible exact Nat.le_refl _ | omega | (simp; done) | (simp; omega))))⟩
      · have ah : ((n : Int) == 0) = false := by rw [HL.out]; simpa using hh
        have HF : Hid ((fV 4 && frm ⟨4, us, nt, ts, tn, os, on, tx, z, hs⟩) = false) := Lib.hid (by first | (simp [frm, hU, hN, hT, hO, hK, hH, hV, hnt, htx, hh]; done) | (simp [frm, hU, hN, hT, hO, hK, hH, hV, hnt, htx, hh]; intros; simp_all))
        clear hU hN hT hO hK hH hV hnt htx hh
        go_enter Tryd.func38, Tryd.ntmps38
        go_wp2
        go_ret
        exact ⟨by first | (rw [HF.out]; done) | (rw [HF.out]; rfl), by (refine bel_out ?_; (focus (repeat' first | (with_reducible refine bel_refl ?_) | with_reducible assumption | with_reducible refine bel_drew ?_ | with_reducible refine bel_drewN _ ?_ | with_reducible refine bel_alloc _ ?_ | with_reducible refine bel_set ?_ _ ?_ | (with_reducible apply bel_call; with_reducible assumption) | (with_reducible apply bel_owg; with_reducible assumption; (focus omega)) | with_reducible exact Nat.le_refl _ | omega | (simp; done) | (simp; omega))))⟩
    · obtain ⟨atx, btx, ctx, dtx⟩ := str_ne htx
      have HF : Hid ((fV 4 && frm ⟨4, us, nt, ts, tn, os, on, tx, z, hs⟩) = false) := Lib.hid (by first | (simp [frm, hU, hN, hT, hO, hK, hH, hV, hnt, htx]; done) | (simp [frm, hU, hN, hT, hO, hK, hH, hV, hnt, htx]; intros; simp_all))
      clear hU hN hT hO hK hH hV hnt htx
      go_enter Tryd.func38, Tryd.ntmps38
      go_wp2
      go_ret
      exact ⟨by first | (rw [HF.out]; done) | (rw [HF.out]; rfl), by (refine bel_out ?_; (focus (repeat' first | (with_reducible refine bel_refl ?_) | with_reducible assumption | with_reducible refine bel_drew ?_ | with_reducible refine bel_drewN _ ?_ | with_reducible refine bel_alloc _ ?_ | with_reducible refine bel_set ?_ _ ?_ | (with_reducible apply bel_call; with_reducible assumption) | (with_reducible apply bel_owg; with_reducible assumption; (focus omega)) | with_reducible exact Nat.le_refl _ | omega | (simp; done) | (simp; omega))))⟩
  · obtain ⟨ant, bnt, cnt, dnt⟩ := str_ne hnt
    have HF : Hid ((fV 4 && frm ⟨4, us, nt, ts, tn, os, on, tx, z, hs⟩) = false) := Lib.hid (by first | (simp [frm, hU, hN, hT, hO, hK, hH, hV, hnt]; done) | (simp [frm, hU, hN, hT, hO, hK, hH, hV, hnt]; intros; simp_all))
    clear hU hN hT hO hK hH hV hnt
    go_enter Tryd.func38, Tryd.ntmps38
    go_wp2
    go_ret
    exact ⟨by first | (rw [HF.out]; done) | (rw [HF.out]; rfl), by (refine bel_out ?_; (focus (repeat' first | (with_reducible refine bel_refl ?_) | with_reducible assumption | with_reducible refine bel_drew ?_ | with_reducible refine bel_drewN _ ?_ | with_reducible refine bel_alloc _ ?_ | with_reducible refine bel_set ?_ _ ?_ | (with_reducible apply bel_call; with_reducible assumption) | (with_reducible apply bel_owg; with_reducible assumption; (focus omega)) | with_reducible exact Nat.le_refl _ | omega | (simp; done) | (simp; omega))))⟩
set_option maxRecDepth 100000 in
set_option maxHeartbeats 16000000 in
theorem rform_5 (c : Cg) (A : Option Addr) (n cp : Nat) (w : World) (hn : n = c.hs.length) (hkd : c.kd = 5) :
    Calls Tryd.prog 38 #[cval c A n cp] w (RFm c w) := by
  have hgt := title_guard
  have hub : ∀ b : Bool, (some undef = some (Value.bool b)) = False := fun b => by simp [undef]
  have hub2 : ∀ b : Bool, (undef = Value.bool b) = False := fun b => by simp [undef]
  obtain ⟨kd, us, nt, ts, tn, os, on, tx, z, hs⟩ := c
  unfold cval RFm
  have HL := Lib.hid hn
  clear hn
  simp only [] at hkd HL
  subst hkd
  have hU : fU 5 = true := rfl
  have hN : fN 5 = false := rfl
  have hT : fT 5 = true := rfl
  have hO : fO 5 = false := rfl
  have hK : fK 5 = false := rfl
  have hH : fH 5 = true := rfl
  have hV : fV 5 = true := rfl
  by_cases hnt : nt.size = 0
  · obtain ⟨ant, bnt, cnt⟩ := str_e hnt
    by_cases htx : tx.size = 0
    · obtain ⟨atx, btx, ctx⟩ := str_e htx
      by_cases hz : z = 0
      · have az : (z == 0) = true := by simpa using hz
        have bz : (z != 0) = false := by simpa using hz
        have yos := run_eq_title os on 0 ⟨#[]⟩
        have zos := run_neq_title os on 0 ⟨#[]⟩
        by_cases hos : os = 0 ∧ on.size = 0
        · rw [show decide (os = 0 ∧ on = ⟨#[]⟩) = true from decide_eq_true ⟨hos.1, ba_nil hos.2⟩] at yos zos
          have HF : Hid ((fV 5 && frm ⟨5, us, nt, ts, tn, os, on, tx, z, hs⟩) = true) := Lib.hid (by first | (simp [frm, hU, hN, hT, hO, hK, hH, hV, hnt, htx, hz, hos]; done) | (simp [frm, hU, hN, hT, hO, hK, hH, hV, hnt, htx, hz, hos]; intros; simp_all))
          clear hU hN hT hO hK hH hV hnt htx hz hos
          go_enter Tryd.func38, Tryd.ntmps38
          go_wp2
          go_ret
          exact ⟨by first | (rw [HF.out]; done) | (rw [HF.out]; rfl), by (refine bel_out ?_; (focus (repeat' first | (with_reducible refine bel_refl ?_) | with_reducible assumption | with_reducible refine bel_drew ?_ | with_reducible refine bel_drewN _ ?_ | with_reducible refine bel_alloc _ ?_ | with_reducible refine bel_set ?_ _ ?_ | (with_reducible apply bel_call; with_reducible assumption) | (with_reducible apply bel_owg; with_reducible assumption; (focus omega)) | with_reducible exact Nat.le_refl _ | omega | (simp; done) | (simp; omega))))⟩
        · rw [show decide (os = 0 ∧ on = ⟨#[]⟩) = false from decide_eq_false (fun e => hos ⟨e.1, by rw [e.2]; rfl⟩)] at yos zos
          have gos : (os == 0 && decide (on.size = 0)) = false := by rw [Bool.eq_false_iff]; intro e; rw [Bool.and_eq_true] at e; exact hos ⟨by simpa using e.1, of_decide_eq_true e.2⟩
          have HF : Hid ((fV 5 && frm ⟨5, us, nt, ts, tn, os, on, tx, z, hs⟩) = false) := Lib.hid (by first | (simp [frm, hU, hN, hT, hO, hK, hH, hV, hnt, htx, hz, hos]; done) | (simp [frm, hU, hN, hT, hO, hK, hH, hV, hnt, htx, hz, hos]; intros; simp_all))
          clear hU hN hT hO hK hH hV hnt htx hz hos
          go_enter Tryd.func38, Tryd.ntmps38
          go_wp2
          go_ret
          exact ⟨by first | (rw [HF.out]; done) | (rw [HF.out]; rfl), by (refine bel_out ?_; (focus (repeat' first | (with_reducible refine bel_refl ?_) | with_reducible assumption | with_reducible refine bel_drew ?_ | with_reducible refine bel_drewN _ ?_ | with_reducible refine bel_alloc _ ?_ | with_reducible refine bel_set ?_ _ ?_ | (with_reducible apply bel_call; with_reducible assumption) | (with_reducible apply bel_owg; with_reducible assumption; (focus omega)) | with_reducible exact Nat.le_refl _ | omega | (simp; done) | (simp; omega))))⟩
      · have az : (z == 0) = false := by simpa using hz
        have bz : (z != 0) = true := by simpa using hz
        have HF : Hid ((fV 5 && frm ⟨5, us, nt, ts, tn, os, on, tx, z, hs⟩) = false) := Lib.hid (by first | (simp [frm, hU, hN, hT, hO, hK, hH, hV, hnt, htx, hz]; done) | (simp [frm, hU, hN, hT, hO, hK, hH, hV, hnt, htx, hz]; intros; simp_all))
        clear hU hN hT hO hK hH hV hnt htx hz
        go_enter Tryd.func38, Tryd.ntmps38
        go_wp2
        go_ret
        exact ⟨by first | (rw [HF.out]; done) | (rw [HF.out]; rfl), by (refine bel_out ?_; (focus (repeat' first | (with_reducible refine bel_refl ?_) | with_reducible assumption | with_reducible refine bel_drew ?_ | with_reducible refine bel_drewN _ ?_ | with_reducible refine bel_alloc _ ?_ | with_reducible refine bel_set ?_ _ ?_ | (with_reducible apply bel_call; with_reducible assumption) | (with_reducible apply bel_owg; with_reducible assumption; (focus omega)) | with_reducible exact Nat.le_refl _ | omega | (simp; done) | (simp; omega))))⟩
    · obtain ⟨atx, btx, ctx, dtx⟩ := str_ne htx
      have HF : Hid ((fV 5 && frm ⟨5, us, nt, ts, tn, os, on, tx, z, hs⟩) = false) := Lib.hid (by first | (simp [frm, hU, hN, hT, hO, hK, hH, hV, hnt, htx]; done) | (simp [frm, hU, hN, hT, hO, hK, hH, hV, hnt, htx]; intros; simp_all))
      clear hU hN hT hO hK hH hV hnt htx
      go_enter Tryd.func38, Tryd.ntmps38
      go_wp2
      go_ret
      exact ⟨by first | (rw [HF.out]; done) | (rw [HF.out]; rfl), by (refine bel_out ?_; (focus (repeat' first | (with_reducible refine bel_refl ?_) | with_reducible assumption | with_reducible refine bel_drew ?_ | with_reducible refine bel_drewN _ ?_ | with_reducible refine bel_alloc _ ?_ | with_reducible refine bel_set ?_ _ ?_ | (with_reducible apply bel_call; with_reducible assumption) | (with_reducible apply bel_owg; with_reducible assumption; (focus omega)) | with_reducible exact Nat.le_refl _ | omega | (simp; done) | (simp; omega))))⟩
  · obtain ⟨ant, bnt, cnt, dnt⟩ := str_ne hnt
    have HF : Hid ((fV 5 && frm ⟨5, us, nt, ts, tn, os, on, tx, z, hs⟩) = false) := Lib.hid (by first | (simp [frm, hU, hN, hT, hO, hK, hH, hV, hnt]; done) | (simp [frm, hU, hN, hT, hO, hK, hH, hV, hnt]; intros; simp_all))
    clear hU hN hT hO hK hH hV hnt
    go_enter Tryd.func38, Tryd.ntmps38
    go_wp2
    go_ret
    exact ⟨by first | (rw [HF.out]; done) | (rw [HF.out]; rfl), by (refine bel_out ?_; (focus (repeat' first | (with_reducible refine bel_refl ?_) | with_reducible assumption | with_reducible refine bel_drew ?_ | with_reducible refine bel_drewN _ ?_ | with_reducible refine bel_alloc _ ?_ | with_reducible refine bel_set ?_ _ ?_ | (with_reducible apply bel_call; with_reducible assumption) | (with_reducible apply bel_owg; with_reducible assumption; (focus omega)) | with_reducible exact Nat.le_refl _ | omega | (simp; done) | (simp; omega))))⟩
set_option maxRecDepth 100000 in
set_option maxHeartbeats 16000000 in
theorem rform_9 (c : Cg) (A : Option Addr) (n cp : Nat) (w : World) (hn : n = c.hs.length) (hkd : c.kd = 9) :
    Calls Tryd.prog 38 #[cval c A n cp] w (RFm c w) := by
  have hgt := title_guard
  have hub : ∀ b : Bool, (some undef = some (Value.bool b)) = False := fun b => by simp [undef]
  have hub2 : ∀ b : Bool, (undef = Value.bool b) = False := fun b => by simp [undef]
  obtain ⟨kd, us, nt, ts, tn, os, on, tx, z, hs⟩ := c
  unfold cval RFm
  have HL := Lib.hid hn
  clear hn
  simp only [] at hkd HL
  subst hkd
  have hU : fU 9 = true := rfl
  have hN : fN 9 = true := rfl
  have hT : fT 9 = true := rfl
  have hO : fO 9 = false := rfl
  have hK : fK 9 = true := rfl
  have hH : fH 9 = false := rfl
  have hV : fV 9 = true := rfl
  have yos := run_eq_title os on 0 ⟨#[]⟩
  have zos := run_neq_title os on 0 ⟨#[]⟩
  by_cases hos : os = 0 ∧ on.size = 0
  · rw [show decide (os = 0 ∧ on = ⟨#[]⟩) = true from decide_eq_true ⟨hos.1, ba_nil hos.2⟩] at yos zos
    by_cases hh : hs.length = 0
    · have ah : ((n : Int) == 0) = true := by rw [HL.out]; simpa using hh
      have HF : Hid ((fV 9 && frm ⟨9, us, nt, ts, tn, os, on, tx, z, hs⟩) = true) := Lib.hid (by first | (simp [frm, hU, hN, hT, hO, hK, hH, hV, hos, hh]; done) | (simp [frm, hU, hN, hT, hO, hK, hH, hV, hos, hh]; intros; simp_all))
      clear hU hN hT hO hK hH hV hos hh
      go_enter Tryd.func38, Tryd.ntmps38
      go_wp2
      go_ret
      exact ⟨by first | (rw [HF.out]; done) | (rw [HF.out]; rfl), by (refine bel_out ?_; (focus (repeat' first | (with_reducible refine bel_refl ?_) | with_reducible assumption | with_reducible refine bel_drew ?_ | with_reducible refine bel_drewN _ ?_ | with_reducible refine bel_alloc _ ?_ | with_reducible refine bel_set ?_ _ ?_ | (with_reducible apply bel_call; with_reducible assumption) | (with_reducible apply bel_owg; with_reducible assumption; (focus omega)) | with_reducible exact Nat.le_refl _ | omega | (simp; done) | (simp; omega))))⟩
    · have ah : ((n : Int) == 0) = false := by rw [HL.out]; simpa using hh
      have HF : Hid ((fV 9 && frm ⟨9, us, nt, ts, tn, os, on, tx, z, hs⟩) = false) := Lib.hid (by first | (simp [frm, hU, hN, hT, hO, hK, hH, hV, hos, hh]; done) | (simp [frm, hU, hN, hT, hO, hK, hH, hV, hos, hh]; intros; simp_all))
      clear hU hN hT hO hK hH hV hos hh
      go_enter Tryd.func38, Tryd.ntmps38
      go_wp2
      go_ret
      exact ⟨by first | (rw [HF.out]; done) | (rw [HF.out]; rfl), by (refine bel_out ?_; (focus (repeat' first | (with_reducible refine bel_refl ?_) | with_reducible assumption | with_reducible refine bel_drew ?_ | with_reducible refine bel_drewN _ ?_ | with_reducible refine bel_alloc _ ?_ | with_reducible refine bel_set ?_ _ ?_ | (with_reducible apply bel_call; with_reducible assumption) | (with_reducible apply bel_owg; with_reducible assumption; (focus omega)) | with_reducible exact Nat.le_refl _ | omega | (simp; done) | (simp; omega))))⟩
  · rw [show decide (os = 0 ∧ on = ⟨#[]⟩) = false from decide_eq_false (fun e => hos ⟨e.1, by rw [e.2]; rfl⟩)] at yos zos
    have gos : (os == 0 && decide (on.size = 0)) = false := by rw [Bool.eq_false_iff]; intro e; rw [Bool.and_eq_true] at e; exact hos ⟨by simpa using e.1, of_decide_eq_true e.2⟩
    have HF : Hid ((fV 9 && frm ⟨9, us, nt, ts, tn, os, on, tx, z, hs⟩) = false) := Lib.hid (by first | (simp [frm, hU, hN, hT, hO, hK, hH, hV, hos]; done) | (simp [frm, hU, hN, hT, hO, hK, hH, hV, hos]; intros; simp_all))
    clear hU hN hT hO hK hH hV hos
    go_enter Tryd.func38, Tryd.ntmps38
    go_wp2
    go_ret
    exact ⟨by first | (rw [HF.out]; done) | (rw [HF.out]; rfl), by (refine bel_out ?_; (focus (repeat' first | (with_reducible refine bel_refl ?_) | with_reducible assumption | with_reducible refine bel_drew ?_ | with_reducible refine bel_drewN _ ?_ | with_reducible refine bel_alloc _ ?_ | with_reducible refine bel_set ?_ _ ?_ | (with_reducible apply bel_call; with_reducible assumption) | (with_reducible apply bel_owg; with_reducible assumption; (focus omega)) | with_reducible exact Nat.le_refl _ | omega | (simp; done) | (simp; omega))))⟩
end Go.Proofs.YtbeijpajodgpeaaDoor
/- The walk of trcref26.form, C7c. Printed by gen_c7.py -/
namespace Go.Proofs.YtbeijpajodgpeaaDoor
open Go.RowKit
set_option linter.unusedSimpArgs false
set_option linter.unusedVariables false
set_option maxRecDepth 100000 in
set_option maxHeartbeats 16000000 in
theorem rform_6 (c : Cg) (A : Option Addr) (n cp : Nat) (w : World) (hn : n = c.hs.length) (hkd : c.kd = 6) :
    Calls Tryd.prog 38 #[cval c A n cp] w (RFm c w) := by
  have hgt := title_guard
  have hub : ∀ b : Bool, (some undef = some (Value.bool b)) = False := fun b => by simp [undef]
  have hub2 : ∀ b : Bool, (undef = Value.bool b) = False := fun b => by simp [undef]
  obtain ⟨kd, us, nt, ts, tn, os, on, tx, z, hs⟩ := c
  unfold cval RFm
  have HL := Lib.hid hn
  clear hn
  simp only [] at hkd HL
  subst hkd
  have hU : fU 6 = false := rfl
  have hN : fN 6 = false := rfl
  have hT : fT 6 = false := rfl
  have hO : fO 6 = false := rfl
  have hK : fK 6 = true := rfl
  have hH : fH 6 = false := rfl
  have hV : fV 6 = true := rfl
  by_cases hnt : nt.size = 0
  · obtain ⟨ant, bnt, cnt⟩ := str_e hnt
    by_cases htx : tx.size = 0
    · obtain ⟨atx, btx, ctx⟩ := str_e htx
      have yts := run_eq_title ts tn 0 ⟨#[]⟩
      have zts := run_neq_title ts tn 0 ⟨#[]⟩
      by_cases hts : ts = 0 ∧ tn.size = 0
      · rw [show decide (ts = 0 ∧ tn = ⟨#[]⟩) = true from decide_eq_true ⟨hts.1, ba_nil hts.2⟩] at yts zts
        by_cases hus : us.size = 0
        · obtain ⟨aus, bus, cus⟩ := str_e hus
          have yos := run_eq_title os on 0 ⟨#[]⟩
          have zos := run_neq_title os on 0 ⟨#[]⟩
          by_cases hos : os = 0 ∧ on.size = 0
          · rw [show decide (os = 0 ∧ on = ⟨#[]⟩) = true from decide_eq_true ⟨hos.1, ba_nil hos.2⟩] at yos zos
            by_cases hh : hs.length = 0
            · have ah : ((n : Int) == 0) = true := by rw [HL.out]; simpa using hh
              have HF : Hid ((fV 6 && frm ⟨6, us, nt, ts, tn, os, on, tx, z, hs⟩) = true) := Lib.hid (by first | (simp [frm, hU, hN, hT, hO, hK, hH, hV, hnt, htx, hts, hus, hos, hh]; done) | (simp [frm, hU, hN, hT, hO, hK, hH, hV, hnt, htx, hts, hus, hos, hh]; intros; simp_all))
              clear hU hN hT hO hK hH hV hnt htx hts hus hos hh
              go_enter Tryd.func38, Tryd.ntmps38
              go_wp2
              go_ret
              exact ⟨by first | (rw [HF.out]; done) | (rw [HF.out]; rfl), by (refine bel_out ?_; (focus (repeat' first | (with_reducible refine bel_refl ?_) | with_reducible assumption | with_reducible refine bel_drew ?_ | with_reducible refine bel_drewN _ ?_ | with_reducible refine bel_alloc _ ?_ | with_reducible refine bel_set ?_ _ ?_ | (with_reducible apply bel_call; with_reducible assumption) | (with_reducible apply bel_owg; with_reducible assumption; (focus omega)) | with_reducible exact Nat.le_refl _ | omega | (simp; done) | (simp; omega))))⟩
            · have ah : ((n : Int) == 0) = false := by rw [HL.out]; simpa using hh
              have HF : Hid ((fV 6 && frm ⟨6, us, nt, ts, tn, os, on, tx, z, hs⟩) = false) := Lib.hid (by first | (simp [frm, hU, hN, hT, hO, hK, hH, hV, hnt, htx, hts, hus, hos, hh]; done) | (simp [frm, hU, hN, hT, hO, hK, hH, hV, hnt, htx, hts, hus, hos, hh]; intros; simp_all))
              clear hU hN hT hO hK hH hV hnt htx hts hus hos hh
              go_enter Tryd.func38, Tryd.ntmps38
              go_wp2
              go_ret
              exact ⟨by first | (rw [HF.out]; done) | (rw [HF.out]; rfl), by (refine bel_out ?_; (focus (repeat' first | (with_reducible refine bel_refl ?_) | with_reducible assumption | with_reducible refine bel_drew ?_ | with_reducible refine bel_drewN _ ?_ | with_reducible refine bel_alloc _ ?_ | with_reducible refine bel_set ?_ _ ?_ | (with_reducible apply bel_call; with_reducible assumption) | (with_reducible apply bel_owg; with_reducible assumption; (focus omega)) | with_reducible exact Nat.le_refl _ | omega | (simp; done) | (simp; omega))))⟩
          · rw [show decide (os = 0 ∧ on = ⟨#[]⟩) = false from decide_eq_false (fun e => hos ⟨e.1, by rw [e.2]; rfl⟩)] at yos zos
            have gos : (os == 0 && decide (on.size = 0)) = false := by rw [Bool.eq_false_iff]; intro e; rw [Bool.and_eq_true] at e; exact hos ⟨by simpa using e.1, of_decide_eq_true e.2⟩
            have HF : Hid ((fV 6 && frm ⟨6, us, nt, ts, tn, os, on, tx, z, hs⟩) = false) := Lib.hid (by first | (simp [frm, hU, hN, hT, hO, hK, hH, hV, hnt, htx, hts, hus, hos]; done) | (simp [frm, hU, hN, hT, hO, hK, hH, hV, hnt, htx, hts, hus, hos]; intros; simp_all))
            clear hU hN hT hO hK hH hV hnt htx hts hus hos
            go_enter Tryd.func38, Tryd.ntmps38
            go_wp2
            go_ret
            exact ⟨by first | (rw [HF.out]; done) | (rw [HF.out]; rfl), by (refine bel_out ?_; (focus (repeat' first | (with_reducible refine bel_refl ?_) | with_reducible assumption | with_reducible refine bel_drew ?_ | with_reducible refine bel_drewN _ ?_ | with_reducible refine bel_alloc _ ?_ | with_reducible refine bel_set ?_ _ ?_ | (with_reducible apply bel_call; with_reducible assumption) | (with_reducible apply bel_owg; with_reducible assumption; (focus omega)) | with_reducible exact Nat.le_refl _ | omega | (simp; done) | (simp; omega))))⟩
        · obtain ⟨aus, bus, cus, dus⟩ := str_ne hus
          have HF : Hid ((fV 6 && frm ⟨6, us, nt, ts, tn, os, on, tx, z, hs⟩) = false) := Lib.hid (by first | (simp [frm, hU, hN, hT, hO, hK, hH, hV, hnt, htx, hts, hus]; done) | (simp [frm, hU, hN, hT, hO, hK, hH, hV, hnt, htx, hts, hus]; intros; simp_all))
          clear hU hN hT hO hK hH hV hnt htx hts hus
          go_enter Tryd.func38, Tryd.ntmps38
          go_wp2
          go_ret
          exact ⟨by first | (rw [HF.out]; done) | (rw [HF.out]; rfl), by (refine bel_out ?_; (focus (repeat' first | (with_reducible refine bel_refl ?_) | with_reducible assumption | with_reducible refine bel_drew ?_ | with_reducible refine bel_drewN _ ?_ | with_reducible refine bel_alloc _ ?_ | with_reducible refine bel_set ?_ _ ?_ | (with_reducible apply bel_call; with_reducible assumption) | (with_reducible apply bel_owg; with_reducible assumption; (focus omega)) | with_reducible exact Nat.le_refl _ | omega | (simp; done) | (simp; omega))))⟩
      · rw [show decide (ts = 0 ∧ tn = ⟨#[]⟩) = false from decide_eq_false (fun e => hts ⟨e.1, by rw [e.2]; rfl⟩)] at yts zts
        have gts : (ts == 0 && decide (tn.size = 0)) = false := by rw [Bool.eq_false_iff]; intro e; rw [Bool.and_eq_true] at e; exact hts ⟨by simpa using e.1, of_decide_eq_true e.2⟩
        have HF : Hid ((fV 6 && frm ⟨6, us, nt, ts, tn, os, on, tx, z, hs⟩) = false) := Lib.hid (by first | (simp [frm, hU, hN, hT, hO, hK, hH, hV, hnt, htx, hts]; done) | (simp [frm, hU, hN, hT, hO, hK, hH, hV, hnt, htx, hts]; intros; simp_all))
        clear hU hN hT hO hK hH hV hnt htx hts
        go_enter Tryd.func38, Tryd.ntmps38
        go_wp2
        go_ret
        exact ⟨by first | (rw [HF.out]; done) | (rw [HF.out]; rfl), by (refine bel_out ?_; (focus (repeat' first | (with_reducible refine bel_refl ?_) | with_reducible assumption | with_reducible refine bel_drew ?_ | with_reducible refine bel_drewN _ ?_ | with_reducible refine bel_alloc _ ?_ | with_reducible refine bel_set ?_ _ ?_ | (with_reducible apply bel_call; with_reducible assumption) | (with_reducible apply bel_owg; with_reducible assumption; (focus omega)) | with_reducible exact Nat.le_refl _ | omega | (simp; done) | (simp; omega))))⟩
    · obtain ⟨atx, btx, ctx, dtx⟩ := str_ne htx
      have HF : Hid ((fV 6 && frm ⟨6, us, nt, ts, tn, os, on, tx, z, hs⟩) = false) := Lib.hid (by first | (simp [frm, hU, hN, hT, hO, hK, hH, hV, hnt, htx]; done) | (simp [frm, hU, hN, hT, hO, hK, hH, hV, hnt, htx]; intros; simp_all))
      clear hU hN hT hO hK hH hV hnt htx
      go_enter Tryd.func38, Tryd.ntmps38
      go_wp2
      go_ret
      exact ⟨by first | (rw [HF.out]; done) | (rw [HF.out]; rfl), by (refine bel_out ?_; (focus (repeat' first | (with_reducible refine bel_refl ?_) | with_reducible assumption | with_reducible refine bel_drew ?_ | with_reducible refine bel_drewN _ ?_ | with_reducible refine bel_alloc _ ?_ | with_reducible refine bel_set ?_ _ ?_ | (with_reducible apply bel_call; with_reducible assumption) | (with_reducible apply bel_owg; with_reducible assumption; (focus omega)) | with_reducible exact Nat.le_refl _ | omega | (simp; done) | (simp; omega))))⟩
  · obtain ⟨ant, bnt, cnt, dnt⟩ := str_ne hnt
    have HF : Hid ((fV 6 && frm ⟨6, us, nt, ts, tn, os, on, tx, z, hs⟩) = false) := Lib.hid (by first | (simp [frm, hU, hN, hT, hO, hK, hH, hV, hnt]; done) | (simp [frm, hU, hN, hT, hO, hK, hH, hV, hnt]; intros; simp_all))
    clear hU hN hT hO hK hH hV hnt
    go_enter Tryd.func38, Tryd.ntmps38
    go_wp2
    go_ret
    exact ⟨by first | (rw [HF.out]; done) | (rw [HF.out]; rfl), by (refine bel_out ?_; (focus (repeat' first | (with_reducible refine bel_refl ?_) | with_reducible assumption | with_reducible refine bel_drew ?_ | with_reducible refine bel_drewN _ ?_ | with_reducible refine bel_alloc _ ?_ | with_reducible refine bel_set ?_ _ ?_ | (with_reducible apply bel_call; with_reducible assumption) | (with_reducible apply bel_owg; with_reducible assumption; (focus omega)) | with_reducible exact Nat.le_refl _ | omega | (simp; done) | (simp; omega))))⟩
set_option maxRecDepth 100000 in
set_option maxHeartbeats 16000000 in
theorem rform_10 (c : Cg) (A : Option Addr) (n cp : Nat) (w : World) (hn : n = c.hs.length) (hkd : c.kd = 10) :
    Calls Tryd.prog 38 #[cval c A n cp] w (RFm c w) := by
  have hgt := title_guard
  have hub : ∀ b : Bool, (some undef = some (Value.bool b)) = False := fun b => by simp [undef]
  have hub2 : ∀ b : Bool, (undef = Value.bool b) = False := fun b => by simp [undef]
  obtain ⟨kd, us, nt, ts, tn, os, on, tx, z, hs⟩ := c
  unfold cval RFm
  have HL := Lib.hid hn
  clear hn
  simp only [] at hkd HL
  subst hkd
  have hU : fU 10 = true := rfl
  have hN : fN 10 = false := rfl
  have hT : fT 10 = false := rfl
  have hO : fO 10 = false := rfl
  have hK : fK 10 = true := rfl
  have hH : fH 10 = false := rfl
  have hV : fV 10 = true := rfl
  by_cases hnt : nt.size = 0
  · obtain ⟨ant, bnt, cnt⟩ := str_e hnt
    by_cases htx : tx.size = 0
    · obtain ⟨atx, btx, ctx⟩ := str_e htx
      have yts := run_eq_title ts tn 0 ⟨#[]⟩
      have zts := run_neq_title ts tn 0 ⟨#[]⟩
      by_cases hts : ts = 0 ∧ tn.size = 0
      · rw [show decide (ts = 0 ∧ tn = ⟨#[]⟩) = true from decide_eq_true ⟨hts.1, ba_nil hts.2⟩] at yts zts
        have yos := run_eq_title os on 0 ⟨#[]⟩
        have zos := run_neq_title os on 0 ⟨#[]⟩
        by_cases hos : os = 0 ∧ on.size = 0
        · rw [show decide (os = 0 ∧ on = ⟨#[]⟩) = true from decide_eq_true ⟨hos.1, ba_nil hos.2⟩] at yos zos
          by_cases hh : hs.length = 0
          · have ah : ((n : Int) == 0) = true := by rw [HL.out]; simpa using hh
            have HF : Hid ((fV 10 && frm ⟨10, us, nt, ts, tn, os, on, tx, z, hs⟩) = true) := Lib.hid (by first | (simp [frm, hU, hN, hT, hO, hK, hH, hV, hnt, htx, hts, hos, hh]; done) | (simp [frm, hU, hN, hT, hO, hK, hH, hV, hnt, htx, hts, hos, hh]; intros; simp_all))
            clear hU hN hT hO hK hH hV hnt htx hts hos hh
            go_enter Tryd.func38, Tryd.ntmps38
            go_wp2
            go_ret
            exact ⟨by first | (rw [HF.out]; done) | (rw [HF.out]; rfl), by (refine bel_out ?_; (focus (repeat' first | (with_reducible refine bel_refl ?_) | with_reducible assumption | with_reducible refine bel_drew ?_ | with_reducible refine bel_drewN _ ?_ | with_reducible refine bel_alloc _ ?_ | with_reducible refine bel_set ?_ _ ?_ | (with_reducible apply bel_call; with_reducible assumption) | (with_reducible apply bel_owg; with_reducible assumption; (focus omega)) | with_reducible exact Nat.le_refl _ | omega | (simp; done) | (simp; omega))))⟩
          · have ah : ((n : Int) == 0) = false := by rw [HL.out]; simpa using hh
            have HF : Hid ((fV 10 && frm ⟨10, us, nt, ts, tn, os, on, tx, z, hs⟩) = false) := Lib.hid (by first | (simp [frm, hU, hN, hT, hO, hK, hH, hV, hnt, htx, hts, hos, hh]; done) | (simp [frm, hU, hN, hT, hO, hK, hH, hV, hnt, htx, hts, hos, hh]; intros; simp_all))
            clear hU hN hT hO hK hH hV hnt htx hts hos hh
            go_enter Tryd.func38, Tryd.ntmps38
            go_wp2
            go_ret
            exact ⟨by first | (rw [HF.out]; done) | (rw [HF.out]; rfl), by (refine bel_out ?_; (focus (repeat' first | (with_reducible refine bel_refl ?_) | with_reducible assumption | with_reducible refine bel_drew ?_ | with_reducible refine bel_drewN _ ?_ | with_reducible refine bel_alloc _ ?_ | with_reducible refine bel_set ?_ _ ?_ | (with_reducible apply bel_call; with_reducible assumption) | (with_reducible apply bel_owg; with_reducible assumption; (focus omega)) | with_reducible exact Nat.le_refl _ | omega | (simp; done) | (simp; omega))))⟩
        · rw [show decide (os = 0 ∧ on = ⟨#[]⟩) = false from decide_eq_false (fun e => hos ⟨e.1, by rw [e.2]; rfl⟩)] at yos zos
          have gos : (os == 0 && decide (on.size = 0)) = false := by rw [Bool.eq_false_iff]; intro e; rw [Bool.and_eq_true] at e; exact hos ⟨by simpa using e.1, of_decide_eq_true e.2⟩
          have HF : Hid ((fV 10 && frm ⟨10, us, nt, ts, tn, os, on, tx, z, hs⟩) = false) := Lib.hid (by first | (simp [frm, hU, hN, hT, hO, hK, hH, hV, hnt, htx, hts, hos]; done) | (simp [frm, hU, hN, hT, hO, hK, hH, hV, hnt, htx, hts, hos]; intros; simp_all))
          clear hU hN hT hO hK hH hV hnt htx hts hos
          go_enter Tryd.func38, Tryd.ntmps38
          go_wp2
          go_ret
          exact ⟨by first | (rw [HF.out]; done) | (rw [HF.out]; rfl), by (refine bel_out ?_; (focus (repeat' first | (with_reducible refine bel_refl ?_) | with_reducible assumption | with_reducible refine bel_drew ?_ | with_reducible refine bel_drewN _ ?_ | with_reducible refine bel_alloc _ ?_ | with_reducible refine bel_set ?_ _ ?_ | (with_reducible apply bel_call; with_reducible assumption) | (with_reducible apply bel_owg; with_reducible assumption; (focus omega)) | with_reducible exact Nat.le_refl _ | omega | (simp; done) | (simp; omega))))⟩
      · rw [show decide (ts = 0 ∧ tn = ⟨#[]⟩) = false from decide_eq_false (fun e => hts ⟨e.1, by rw [e.2]; rfl⟩)] at yts zts
        have gts : (ts == 0 && decide (tn.size = 0)) = false := by rw [Bool.eq_false_iff]; intro e; rw [Bool.and_eq_true] at e; exact hts ⟨by simpa using e.1, of_decide_eq_true e.2⟩
        have HF : Hid ((fV 10 && frm ⟨10, us, nt, ts, tn, os, on, tx, z, hs⟩) = false) := Lib.hid (by first | (simp [frm, hU, hN, hT, hO, hK, hH, hV, hnt, htx, hts]; done) | (simp [frm, hU, hN, hT, hO, hK, hH, hV, hnt, htx, hts]; intros; simp_all))
        clear hU hN hT hO hK hH hV hnt htx hts
        go_enter Tryd.func38, Tryd.ntmps38
        go_wp2
        go_ret
        exact ⟨by first | (rw [HF.out]; done) | (rw [HF.out]; rfl), by (refine bel_out ?_; (focus (repeat' first | (with_reducible refine bel_refl ?_) | with_reducible assumption | with_reducible refine bel_drew ?_ | with_reducible refine bel_drewN _ ?_ | with_reducible refine bel_alloc _ ?_ | with_reducible refine bel_set ?_ _ ?_ | (with_reducible apply bel_call; with_reducible assumption) | (with_reducible apply bel_owg; with_reducible assumption; (focus omega)) | with_reducible exact Nat.le_refl _ | omega | (simp; done) | (simp; omega))))⟩
    · obtain ⟨atx, btx, ctx, dtx⟩ := str_ne htx
      have HF : Hid ((fV 10 && frm ⟨10, us, nt, ts, tn, os, on, tx, z, hs⟩) = false) := Lib.hid (by first | (simp [frm, hU, hN, hT, hO, hK, hH, hV, hnt, htx]; done) | (simp [frm, hU, hN, hT, hO, hK, hH, hV, hnt, htx]; intros; simp_all))
      clear hU hN hT hO hK hH hV hnt htx
      go_enter Tryd.func38, Tryd.ntmps38
      go_wp2
      go_ret
      exact ⟨by first | (rw [HF.out]; done) | (rw [HF.out]; rfl), by (refine bel_out ?_; (focus (repeat' first | (with_reducible refine bel_refl ?_) | with_reducible assumption | with_reducible refine bel_drew ?_ | with_reducible refine bel_drewN _ ?_ | with_reducible refine bel_alloc _ ?_ | with_reducible refine bel_set ?_ _ ?_ | (with_reducible apply bel_call; with_reducible assumption) | (with_reducible apply bel_owg; with_reducible assumption; (focus omega)) | with_reducible exact Nat.le_refl _ | omega | (simp; done) | (simp; omega))))⟩
  · obtain ⟨ant, bnt, cnt, dnt⟩ := str_ne hnt
    have HF : Hid ((fV 10 && frm ⟨10, us, nt, ts, tn, os, on, tx, z, hs⟩) = false) := Lib.hid (by first | (simp [frm, hU, hN, hT, hO, hK, hH, hV, hnt]; done) | (simp [frm, hU, hN, hT, hO, hK, hH, hV, hnt]; intros; simp_all))
    clear hU hN hT hO hK hH hV hnt
    go_enter Tryd.func38, Tryd.ntmps38
    go_wp2
    go_ret
    exact ⟨by first | (rw [HF.out]; done) | (rw [HF.out]; rfl), by (refine bel_out ?_; (focus (repeat' first | (with_reducible refine bel_refl ?_) | with_reducible assumption | with_reducible refine bel_drew ?_ | with_reducible refine bel_drewN _ ?_ | with_reducible refine bel_alloc _ ?_ | with_reducible refine bel_set ?_ _ ?_ | (with_reducible apply bel_call; with_reducible assumption) | (with_reducible apply bel_owg; with_reducible assumption; (focus omega)) | with_reducible exact Nat.le_refl _ | omega | (simp; done) | (simp; omega))))⟩
end Go.Proofs.YtbeijpajodgpeaaDoor
/- The walk of trcref26.form, whole. Printed by gen_c7.py -/
namespace Go.Proofs.YtbeijpajodgpeaaDoor
open Go.RowKit
set_option linter.unusedSimpArgs false
set_option linter.unusedVariables false
theorem rform_any (c : Cg) (A : Option Addr) (n cp : Nat) (w : World) (hn : n = c.hs.length) :
    Calls Tryd.prog 38 #[cval c A n cp] w fun e w' => e = .returned (.bool (fV c.kd && frm c)) ∧ Below w.heap.size w w' := by
  by_cases hk : 1 ≤ c.kd ∧ c.kd ≤ 10
  · rcases kinds hk with e | e | e | e | e | e | e | e | e | e
    · exact rform_1 c A n cp w hn e
    · exact rform_2 c A n cp w hn (by omega)
    · exact rform_2 c A n cp w hn (by omega)
    · exact rform_4 c A n cp w hn e
    · exact rform_5 c A n cp w hn e
    · exact rform_6 c A n cp w hn e
    · exact rform_2 c A n cp w hn (by omega)
    · exact rform_2 c A n cp w hn (by omega)
    · exact rform_9 c A n cp w hn e
    · exact rform_10 c A n cp w hn e
  · exact rform_no c A n cp w hk
end Go.Proofs.YtbeijpajodgpeaaDoor
