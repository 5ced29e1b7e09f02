/- The walk of formed, C3c. Printed by gen_formed.py -/
import Derived.Test.YtbeijpajodgpeaaDoorC3
namespace Go.Proofs.YtbeijpajodgpeaaDoor
open Go.RowKit
set_option linter.unusedSimpArgs false
set_option linter.unusedVariables false
set_option maxRecDepth 100000 in
set_option maxHeartbeats 16000000 in
theorem formed_4 (c : Cg) (A : Option Addr) (n cp : Nat) (w : World) (hn : n = c.hs.length) :
    Calls Tryd.prog 31 #[cval c A n cp, usesF 4] w (RFrm 4 c w) := by
  have hgt := title_guard
  have hub : ∀ b : Bool, (some undef = some (Value.bool b)) = False := fun b => by simp [undef]
  have hub2 : ∀ b : Bool, (undef = Value.bool b) = False := fun b => by simp [undef]
  obtain ⟨kd, us, nt, ts, tn, os, on, tx, z, hs⟩ := c
  unfold cval RFrm
  have e : usesF 4 = .agg #[.bool true, .bool false, .bool true, .bool true, .bool false, .bool true, .bool false] := rfl
  rw [e]
  clear e
  have HL := Lib.hid hn
  clear hn
  by_cases hnt : nt.size = 0
  · obtain ⟨ant, bnt, cnt⟩ := str_e hnt
    by_cases htx : tx.size = 0
    · obtain ⟨atx, btx, ctx⟩ := str_e htx
      by_cases hh : hs.length = 0
      · have ah : ((n : Int) == 0) = true := by rw [HL.out]; simpa using hh
        have HF : Hid (frmK 4 ⟨kd, us, nt, ts, tn, os, on, tx, z, hs⟩ = true) := Lib.hid (by first | (simp [frmK, fU, fN, fT, fO, fK, fH, hnt, htx, hh]; done) | (simp [frmK, fU, fN, fT, fO, fK, fH, hnt, htx, hh]; intros; simp_all))
        clear hnt htx hh
        go_enter Tryd.func31, Tryd.ntmps31
        simp only [List.append_eq, List.cons_append, List.nil_append]
        go_wp2
        go_ret
        exact ⟨by first | (rw [HF.out]; done) | (rw [HF.out]; rfl), by (refine bel_out ?_; (focus (repeat' first | (with_reducible refine bel_refl ?_) | with_reducible assumption | with_reducible refine bel_drew ?_ | with_reducible refine bel_drewN _ ?_ | with_reducible refine bel_alloc _ ?_ | with_reducible refine bel_set ?_ _ ?_ | (with_reducible apply bel_call; with_reducible assumption) | (with_reducible apply bel_owg; with_reducible assumption; (focus omega)) | with_reducible exact Nat.le_refl _ | omega | (simp; done) | (simp; omega))))⟩
      · have ah : ((n : Int) == 0) = false := by rw [HL.out]; simpa using hh
        have HF : Hid (frmK 4 ⟨kd, us, nt, ts, tn, os, on, tx, z, hs⟩ = false) := Lib.hid (by first | (simp [frmK, fU, fN, fT, fO, fK, fH, hnt, htx, hh]; done) | (simp [frmK, fU, fN, fT, fO, fK, fH, hnt, htx, hh]; intros; simp_all))
        clear hnt htx hh
        go_enter Tryd.func31, Tryd.ntmps31
        simp only [List.append_eq, List.cons_append, List.nil_append]
        go_wp2
        go_ret
        exact ⟨by first | (rw [HF.out]; done) | (rw [HF.out]; rfl), by (refine bel_out ?_; (focus (repeat' first | (with_reducible refine bel_refl ?_) | with_reducible assumption | with_reducible refine bel_drew ?_ | with_reducible refine bel_drewN _ ?_ | with_reducible refine bel_alloc _ ?_ | with_reducible refine bel_set ?_ _ ?_ | (with_reducible apply bel_call; with_reducible assumption) | (with_reducible apply bel_owg; with_reducible assumption; (focus omega)) | with_reducible exact Nat.le_refl _ | omega | (simp; done) | (simp; omega))))⟩
    · obtain ⟨atx, btx, ctx, dtx⟩ := str_ne htx
      have HF : Hid (frmK 4 ⟨kd, us, nt, ts, tn, os, on, tx, z, hs⟩ = false) := Lib.hid (by first | (simp [frmK, fU, fN, fT, fO, fK, fH, hnt, htx]; done) | (simp [frmK, fU, fN, fT, fO, fK, fH, hnt, htx]; intros; simp_all))
      clear hnt htx
      go_enter Tryd.func31, Tryd.ntmps31
      simp only [List.append_eq, List.cons_append, List.nil_append]
      go_wp2
      go_ret
      exact ⟨by first | (rw [HF.out]; done) | (rw [HF.out]; rfl), by (refine bel_out ?_; (focus (repeat' first | (with_reducible refine bel_refl ?_) | with_reducible assumption | with_reducible refine bel_drew ?_ | with_reducible refine bel_drewN _ ?_ | with_reducible refine bel_alloc _ ?_ | with_reducible refine bel_set ?_ _ ?_ | (with_reducible apply bel_call; with_reducible assumption) | (with_reducible apply bel_owg; with_reducible assumption; (focus omega)) | with_reducible exact Nat.le_refl _ | omega | (simp; done) | (simp; omega))))⟩
  · obtain ⟨ant, bnt, cnt, dnt⟩ := str_ne hnt
    have HF : Hid (frmK 4 ⟨kd, us, nt, ts, tn, os, on, tx, z, hs⟩ = false) := Lib.hid (by first | (simp [frmK, fU, fN, fT, fO, fK, fH, hnt]; done) | (simp [frmK, fU, fN, fT, fO, fK, fH, hnt]; intros; simp_all))
    clear hnt
    go_enter Tryd.func31, Tryd.ntmps31
    simp only [List.append_eq, List.cons_append, List.nil_append]
    go_wp2
    go_ret
    exact ⟨by first | (rw [HF.out]; done) | (rw [HF.out]; rfl), by (refine bel_out ?_; (focus (repeat' first | (with_reducible refine bel_refl ?_) | with_reducible assumption | with_reducible refine bel_drew ?_ | with_reducible refine bel_drewN _ ?_ | with_reducible refine bel_alloc _ ?_ | with_reducible refine bel_set ?_ _ ?_ | (with_reducible apply bel_call; with_reducible assumption) | (with_reducible apply bel_owg; with_reducible assumption; (focus omega)) | with_reducible exact Nat.le_refl _ | omega | (simp; done) | (simp; omega))))⟩
set_option maxRecDepth 100000 in
set_option maxHeartbeats 16000000 in
theorem formed_5 (c : Cg) (A : Option Addr) (n cp : Nat) (w : World) (hn : n = c.hs.length) :
    Calls Tryd.prog 31 #[cval c A n cp, usesF 5] w (RFrm 5 c w) := by
  have hgt := title_guard
  have hub : ∀ b : Bool, (some undef = some (Value.bool b)) = False := fun b => by simp [undef]
  have hub2 : ∀ b : Bool, (undef = Value.bool b) = False := fun b => by simp [undef]
  obtain ⟨kd, us, nt, ts, tn, os, on, tx, z, hs⟩ := c
  unfold cval RFrm
  have e : usesF 5 = .agg #[.bool true, .bool false, .bool true, .bool false, .bool false, .bool false, .bool true] := rfl
  rw [e]
  clear e
  have HL := Lib.hid hn
  clear hn
  by_cases hnt : nt.size = 0
  · obtain ⟨ant, bnt, cnt⟩ := str_e hnt
    have zos := run_eq_title os on 0 ⟨#[]⟩
    by_cases hos : os = 0 ∧ on.size = 0
    · rw [show decide (os = 0 ∧ on = ⟨#[]⟩) = true from decide_eq_true ⟨hos.1, ba_nil hos.2⟩] at zos
      by_cases htx : tx.size = 0
      · obtain ⟨atx, btx, ctx⟩ := str_e htx
        by_cases hz : z = 0
        · have az : (z == 0) = true := by simpa using hz
          have HF : Hid (frmK 5 ⟨kd, us, nt, ts, tn, os, on, tx, z, hs⟩ = true) := Lib.hid (by first | (simp [frmK, fU, fN, fT, fO, fK, fH, hnt, hos, htx, hz]; done) | (simp [frmK, fU, fN, fT, fO, fK, fH, hnt, hos, htx, hz]; intros; simp_all))
          clear hnt hos htx hz
          go_enter Tryd.func31, Tryd.ntmps31
          simp only [List.append_eq, List.cons_append, List.nil_append]
          go_wp2
          go_ret
          exact ⟨by first | (rw [HF.out]; done) | (rw [HF.out]; rfl), by (refine bel_out ?_; (focus (repeat' first | (with_reducible refine bel_refl ?_) | with_reducible assumption | with_reducible refine bel_drew ?_ | with_reducible refine bel_drewN _ ?_ | with_reducible refine bel_alloc _ ?_ | with_reducible refine bel_set ?_ _ ?_ | (with_reducible apply bel_call; with_reducible assumption) | (with_reducible apply bel_owg; with_reducible assumption; (focus omega)) | with_reducible exact Nat.le_refl _ | omega | (simp; done) | (simp; omega))))⟩
        · have az : (z == 0) = false := by simpa using hz
          have HF : Hid (frmK 5 ⟨kd, us, nt, ts, tn, os, on, tx, z, hs⟩ = false) := Lib.hid (by first | (simp [frmK, fU, fN, fT, fO, fK, fH, hnt, hos, htx, hz]; done) | (simp [frmK, fU, fN, fT, fO, fK, fH, hnt, hos, htx, hz]; intros; simp_all))
          clear hnt hos htx hz
          go_enter Tryd.func31, Tryd.ntmps31
          simp only [List.append_eq, List.cons_append, List.nil_append]
          go_wp2
          go_ret
          exact ⟨by first | (rw [HF.out]; done) | (rw [HF.out]; rfl), by (refine bel_out ?_; (focus (repeat' first | (with_reducible refine bel_refl ?_) | with_reducible assumption | with_reducible refine bel_drew ?_ | with_reducible refine bel_drewN _ ?_ | with_reducible refine bel_alloc _ ?_ | with_reducible refine bel_set ?_ _ ?_ | (with_reducible apply bel_call; with_reducible assumption) | (with_reducible apply bel_owg; with_reducible assumption; (focus omega)) | with_reducible exact Nat.le_refl _ | omega | (simp; done) | (simp; omega))))⟩
      · obtain ⟨atx, btx, ctx, dtx⟩ := str_ne htx
        have HF : Hid (frmK 5 ⟨kd, us, nt, ts, tn, os, on, tx, z, hs⟩ = false) := Lib.hid (by first | (simp [frmK, fU, fN, fT, fO, fK, fH, hnt, hos, htx]; done) | (simp [frmK, fU, fN, fT, fO, fK, fH, hnt, hos, htx]; intros; simp_all))
        clear hnt hos htx
        go_enter Tryd.func31, Tryd.ntmps31
        simp only [List.append_eq, List.cons_append, List.nil_append]
        go_wp2
        go_ret
        exact ⟨by first | (rw [HF.out]; done) | (rw [HF.out]; rfl), by (refine bel_out ?_; (focus (repeat' first | (with_reducible refine bel_refl ?_) | with_reducible assumption | with_reducible refine bel_drew ?_ | with_reducible refine bel_drewN _ ?_ | with_reducible refine bel_alloc _ ?_ | with_reducible refine bel_set ?_ _ ?_ | (with_reducible apply bel_call; with_reducible assumption) | (with_reducible apply bel_owg; with_reducible assumption; (focus omega)) | with_reducible exact Nat.le_refl _ | omega | (simp; done) | (simp; omega))))⟩
    · rw [show decide (os = 0 ∧ on = ⟨#[]⟩) = false from decide_eq_false (fun e => hos ⟨e.1, by rw [e.2]; rfl⟩)] at zos
      have gos : (os == 0 && decide (on.size = 0)) = false := by rw [Bool.eq_false_iff]; intro e; rw [Bool.and_eq_true] at e; exact hos ⟨by simpa using e.1, of_decide_eq_true e.2⟩
      have HF : Hid (frmK 5 ⟨kd, us, nt, ts, tn, os, on, tx, z, hs⟩ = false) := Lib.hid (by first | (simp [frmK, fU, fN, fT, fO, fK, fH, hnt, hos]; done) | (simp [frmK, fU, fN, fT, fO, fK, fH, hnt, hos]; intros; simp_all))
      clear hnt hos
      go_enter Tryd.func31, Tryd.ntmps31
      simp only [List.append_eq, List.cons_append, List.nil_append]
      go_wp2
      go_ret
      exact ⟨by first | (rw [HF.out]; done) | (rw [HF.out]; rfl), by (refine bel_out ?_; (focus (repeat' first | (with_reducible refine bel_refl ?_) | with_reducible assumption | with_reducible refine bel_drew ?_ | with_reducible refine bel_drewN _ ?_ | with_reducible refine bel_alloc _ ?_ | with_reducible refine bel_set ?_ _ ?_ | (with_reducible apply bel_call; with_reducible assumption) | (with_reducible apply bel_owg; with_reducible assumption; (focus omega)) | with_reducible exact Nat.le_refl _ | omega | (simp; done) | (simp; omega))))⟩
  · obtain ⟨ant, bnt, cnt, dnt⟩ := str_ne hnt
    have HF : Hid (frmK 5 ⟨kd, us, nt, ts, tn, os, on, tx, z, hs⟩ = false) := Lib.hid (by first | (simp [frmK, fU, fN, fT, fO, fK, fH, hnt]; done) | (simp [frmK, fU, fN, fT, fO, fK, fH, hnt]; intros; simp_all))
    clear hnt
    go_enter Tryd.func31, Tryd.ntmps31
    simp only [List.append_eq, List.cons_append, List.nil_append]
    go_wp2
    go_ret
    exact ⟨by first | (rw [HF.out]; done) | (rw [HF.out]; rfl), by (refine bel_out ?_; (focus (repeat' first | (with_reducible refine bel_refl ?_) | with_reducible assumption | with_reducible refine bel_drew ?_ | with_reducible refine bel_drewN _ ?_ | with_reducible refine bel_alloc _ ?_ | with_reducible refine bel_set ?_ _ ?_ | (with_reducible apply bel_call; with_reducible assumption) | (with_reducible apply bel_owg; with_reducible assumption; (focus omega)) | with_reducible exact Nat.le_refl _ | omega | (simp; done) | (simp; omega))))⟩
end Go.Proofs.YtbeijpajodgpeaaDoor
