/- The walk of formed, C3d. Printed by gen_formed.py -/
import Derived.Test.YtbeijpajodgpeaaDoorC3
namespace Go.Proofs.YtbeijpajodgpeaaDoor
open Go.RowKit
set_option linter.unusedSimpArgs false
set_option linter.unusedVariables false
set_option maxRecDepth 100000 in
set_option maxHeartbeats 16000000 in
theorem formed_6 (c : Cg) (A : Option Addr) (n cp : Nat) (w : World) (hn : n = c.hs.length) :
    Calls Tryd.prog 31 #[cval c A n cp, usesF 6] w (RFrm 6 c w) := by
  have hgt := title_guard
  have hub : ∀ b : Bool, (some undef = some (Value.bool b)) = False := fun b => by simp [undef]
  have hub2 : ∀ b : Bool, (undef = Value.bool b) = False := fun b => by simp [undef]
  obtain ⟨kd, us, nt, ts, tn, os, on, tx, z, hs⟩ := c
  unfold cval RFrm
  have e : usesF 6 = .agg #[.bool false, .bool false, .bool false, .bool false, .bool false, .bool true, .bool false] := rfl
  rw [e]
  clear e
  have HL := Lib.hid hn
  clear hn
  by_cases hus : us.size = 0
  · obtain ⟨aus, bus, cus⟩ := str_e hus
    by_cases hnt : nt.size = 0
    · obtain ⟨ant, bnt, cnt⟩ := str_e hnt
      have zts := run_eq_title ts tn 0 ⟨#[]⟩
      by_cases hts : ts = 0 ∧ tn.size = 0
      · rw [show decide (ts = 0 ∧ tn = ⟨#[]⟩) = true from decide_eq_true ⟨hts.1, ba_nil hts.2⟩] at zts
        have zos := run_eq_title os on 0 ⟨#[]⟩
        by_cases hos : os = 0 ∧ on.size = 0
        · rw [show decide (os = 0 ∧ on = ⟨#[]⟩) = true from decide_eq_true ⟨hos.1, ba_nil hos.2⟩] at zos
          by_cases htx : tx.size = 0
          · obtain ⟨atx, btx, ctx⟩ := str_e htx
            by_cases hh : hs.length = 0
            · have ah : ((n : Int) == 0) = true := by rw [HL.out]; simpa using hh
              have HF : Hid (frmK 6 ⟨kd, us, nt, ts, tn, os, on, tx, z, hs⟩ = true) := Lib.hid (by first | (simp [frmK, fU, fN, fT, fO, fK, fH, hus, hnt, hts, hos, htx, hh]; done) | (simp [frmK, fU, fN, fT, fO, fK, fH, hus, hnt, hts, hos, htx, hh]; intros; simp_all))
              clear hus hnt hts hos htx hh
              go_enter Tryd.func31, Tryd.ntmps31
              simp only [List.append_eq, List.cons_append, List.nil_append]
              go_wp2
              go_ret
              exact ⟨by first | (rw [HF.out]; done) | (rw [HF.out]; rfl), by (refine bel_out ?_; (focus (repeat' first | (with_reducible refine bel_refl ?_) | with_reducible assumption | with_reducible refine bel_drew ?_ | with_reducible refine bel_drewN _ ?_ | with_reducible refine bel_alloc _ ?_ | with_reducible refine bel_set ?_ _ ?_ | (with_reducible apply bel_call; with_reducible assumption) | (with_reducible apply bel_owg; with_reducible assumption; (focus omega)) | with_reducible exact Nat.le_refl _ | omega | (simp; done) | (simp; omega))))⟩
            · have ah : ((n : Int) == 0) = false := by rw [HL.out]; simpa using hh
              have HF : Hid (frmK 6 ⟨kd, us, nt, ts, tn, os, on, tx, z, hs⟩ = false) := Lib.hid (by first | (simp [frmK, fU, fN, fT, fO, fK, fH, hus, hnt, hts, hos, htx, hh]; done) | (simp [frmK, fU, fN, fT, fO, fK, fH, hus, hnt, hts, hos, htx, hh]; intros; simp_all))
              clear hus hnt hts hos htx hh
              go_enter Tryd.func31, Tryd.ntmps31
              simp only [List.append_eq, List.cons_append, List.nil_append]
              go_wp2
              go_ret
              exact ⟨by first | (rw [HF.out]; done) | (rw [HF.out]; rfl), by (refine bel_out ?_; (focus (repeat' first | (with_reducible refine bel_refl ?_) | with_reducible assumption | with_reducible refine bel_drew ?_ | with_reducible refine bel_drewN _ ?_ | with_reducible refine bel_alloc _ ?_ | with_reducible refine bel_set ?_ _ ?_ | (with_reducible apply bel_call; with_reducible assumption) | (with_reducible apply bel_owg; with_reducible assumption; (focus omega)) | with_reducible exact Nat.le_refl _ | omega | (simp; done) | (simp; omega))))⟩
          · obtain ⟨atx, btx, ctx, dtx⟩ := str_ne htx
            have HF : Hid (frmK 6 ⟨kd, us, nt, ts, tn, os, on, tx, z, hs⟩ = false) := Lib.hid (by first | (simp [frmK, fU, fN, fT, fO, fK, fH, hus, hnt, hts, hos, htx]; done) | (simp [frmK, fU, fN, fT, fO, fK, fH, hus, hnt, hts, hos, htx]; intros; simp_all))
            clear hus hnt hts hos htx
            go_enter Tryd.func31, Tryd.ntmps31
            simp only [List.append_eq, List.cons_append, List.nil_append]
            go_wp2
            go_ret
            exact ⟨by first | (rw [HF.out]; done) | (rw [HF.out]; rfl), by (refine bel_out ?_; (focus (repeat' first | (with_reducible refine bel_refl ?_) | with_reducible assumption | with_reducible refine bel_drew ?_ | with_reducible refine bel_drewN _ ?_ | with_reducible refine bel_alloc _ ?_ | with_reducible refine bel_set ?_ _ ?_ | (with_reducible apply bel_call; with_reducible assumption) | (with_reducible apply bel_owg; with_reducible assumption; (focus omega)) | with_reducible exact Nat.le_refl _ | omega | (simp; done) | (simp; omega))))⟩
        · rw [show decide (os = 0 ∧ on = ⟨#[]⟩) = false from decide_eq_false (fun e => hos ⟨e.1, by rw [e.2]; rfl⟩)] at zos
          have gos : (os == 0 && decide (on.size = 0)) = false := by rw [Bool.eq_false_iff]; intro e; rw [Bool.and_eq_true] at e; exact hos ⟨by simpa using e.1, of_decide_eq_true e.2⟩
          have HF : Hid (frmK 6 ⟨kd, us, nt, ts, tn, os, on, tx, z, hs⟩ = false) := Lib.hid (by first | (simp [frmK, fU, fN, fT, fO, fK, fH, hus, hnt, hts, hos]; done) | (simp [frmK, fU, fN, fT, fO, fK, fH, hus, hnt, hts, hos]; intros; simp_all))
          clear hus hnt hts hos
          go_enter Tryd.func31, Tryd.ntmps31
          simp only [List.append_eq, List.cons_append, List.nil_append]
          go_wp2
          go_ret
          exact ⟨by first | (rw [HF.out]; done) | (rw [HF.out]; rfl), by (refine bel_out ?_; (focus (repeat' first | (with_reducible refine bel_refl ?_) | with_reducible assumption | with_reducible refine bel_drew ?_ | with_reducible refine bel_drewN _ ?_ | with_reducible refine bel_alloc _ ?_ | with_reducible refine bel_set ?_ _ ?_ | (with_reducible apply bel_call; with_reducible assumption) | (with_reducible apply bel_owg; with_reducible assumption; (focus omega)) | with_reducible exact Nat.le_refl _ | omega | (simp; done) | (simp; omega))))⟩
      · rw [show decide (ts = 0 ∧ tn = ⟨#[]⟩) = false from decide_eq_false (fun e => hts ⟨e.1, by rw [e.2]; rfl⟩)] at zts
        have gts : (ts == 0 && decide (tn.size = 0)) = false := by rw [Bool.eq_false_iff]; intro e; rw [Bool.and_eq_true] at e; exact hts ⟨by simpa using e.1, of_decide_eq_true e.2⟩
        have HF : Hid (frmK 6 ⟨kd, us, nt, ts, tn, os, on, tx, z, hs⟩ = false) := Lib.hid (by first | (simp [frmK, fU, fN, fT, fO, fK, fH, hus, hnt, hts]; done) | (simp [frmK, fU, fN, fT, fO, fK, fH, hus, hnt, hts]; intros; simp_all))
        clear hus hnt hts
        go_enter Tryd.func31, Tryd.ntmps31
        simp only [List.append_eq, List.cons_append, List.nil_append]
        go_wp2
        go_ret
        exact ⟨by first | (rw [HF.out]; done) | (rw [HF.out]; rfl), by (refine bel_out ?_; (focus (repeat' first | (with_reducible refine bel_refl ?_) | with_reducible assumption | with_reducible refine bel_drew ?_ | with_reducible refine bel_drewN _ ?_ | with_reducible refine bel_alloc _ ?_ | with_reducible refine bel_set ?_ _ ?_ | (with_reducible apply bel_call; with_reducible assumption) | (with_reducible apply bel_owg; with_reducible assumption; (focus omega)) | with_reducible exact Nat.le_refl _ | omega | (simp; done) | (simp; omega))))⟩
    · obtain ⟨ant, bnt, cnt, dnt⟩ := str_ne hnt
      have HF : Hid (frmK 6 ⟨kd, us, nt, ts, tn, os, on, tx, z, hs⟩ = false) := Lib.hid (by first | (simp [frmK, fU, fN, fT, fO, fK, fH, hus, hnt]; done) | (simp [frmK, fU, fN, fT, fO, fK, fH, hus, hnt]; intros; simp_all))
      clear hus hnt
      go_enter Tryd.func31, Tryd.ntmps31
      simp only [List.append_eq, List.cons_append, List.nil_append]
      go_wp2
      go_ret
      exact ⟨by first | (rw [HF.out]; done) | (rw [HF.out]; rfl), by (refine bel_out ?_; (focus (repeat' first | (with_reducible refine bel_refl ?_) | with_reducible assumption | with_reducible refine bel_drew ?_ | with_reducible refine bel_drewN _ ?_ | with_reducible refine bel_alloc _ ?_ | with_reducible refine bel_set ?_ _ ?_ | (with_reducible apply bel_call; with_reducible assumption) | (with_reducible apply bel_owg; with_reducible assumption; (focus omega)) | with_reducible exact Nat.le_refl _ | omega | (simp; done) | (simp; omega))))⟩
  · obtain ⟨aus, bus, cus, dus⟩ := str_ne hus
    have HF : Hid (frmK 6 ⟨kd, us, nt, ts, tn, os, on, tx, z, hs⟩ = false) := Lib.hid (by first | (simp [frmK, fU, fN, fT, fO, fK, fH, hus]; done) | (simp [frmK, fU, fN, fT, fO, fK, fH, hus]; intros; simp_all))
    clear hus
    go_enter Tryd.func31, Tryd.ntmps31
    simp only [List.append_eq, List.cons_append, List.nil_append]
    go_wp2
    go_ret
    exact ⟨by first | (rw [HF.out]; done) | (rw [HF.out]; rfl), by (refine bel_out ?_; (focus (repeat' first | (with_reducible refine bel_refl ?_) | with_reducible assumption | with_reducible refine bel_drew ?_ | with_reducible refine bel_drewN _ ?_ | with_reducible refine bel_alloc _ ?_ | with_reducible refine bel_set ?_ _ ?_ | (with_reducible apply bel_call; with_reducible assumption) | (with_reducible apply bel_owg; with_reducible assumption; (focus omega)) | with_reducible exact Nat.le_refl _ | omega | (simp; done) | (simp; omega))))⟩
set_option maxRecDepth 100000 in
set_option maxHeartbeats 16000000 in
theorem formed_10 (c : Cg) (A : Option Addr) (n cp : Nat) (w : World) (hn : n = c.hs.length) :
    Calls Tryd.prog 31 #[cval c A n cp, usesF 10] w (RFrm 10 c w) := by
  have hgt := title_guard
  have hub : ∀ b : Bool, (some undef = some (Value.bool b)) = False := fun b => by simp [undef]
  have hub2 : ∀ b : Bool, (undef = Value.bool b) = False := fun b => by simp [undef]
  obtain ⟨kd, us, nt, ts, tn, os, on, tx, z, hs⟩ := c
  unfold cval RFrm
  have e : usesF 10 = .agg #[.bool true, .bool false, .bool false, .bool false, .bool false, .bool true, .bool false] := rfl
  rw [e]
  clear e
  have HL := Lib.hid hn
  clear hn
  by_cases hnt : nt.size = 0
  · obtain ⟨ant, bnt, cnt⟩ := str_e hnt
    have zts := run_eq_title ts tn 0 ⟨#[]⟩
    by_cases hts : ts = 0 ∧ tn.size = 0
    · rw [show decide (ts = 0 ∧ tn = ⟨#[]⟩) = true from decide_eq_true ⟨hts.1, ba_nil hts.2⟩] at zts
      have zos := run_eq_title os on 0 ⟨#[]⟩
      by_cases hos : os = 0 ∧ on.size = 0
      · rw [show decide (os = 0 ∧ on = ⟨#[]⟩) = true from decide_eq_true ⟨hos.1, ba_nil hos.2⟩] at zos
        by_cases htx : tx.size = 0
        · obtain ⟨atx, btx, ctx⟩ := str_e htx
          by_cases hh : hs.length = 0
          · have ah : ((n : Int) == 0) = true := by rw [HL.out]; simpa using hh
            have HF : Hid (frmK 10 ⟨kd, us, nt, ts, tn, os, on, tx, z, hs⟩ = true) := Lib.hid (by first | (simp [frmK, fU, fN, fT, fO, fK, fH, hnt, hts, hos, htx, hh]; done) | (simp [frmK, fU, fN, fT, fO, fK, fH, hnt, hts, hos, htx, hh]; intros; simp_all))
            clear hnt hts hos htx hh
            go_enter Tryd.func31, Tryd.ntmps31
            simp only [List.append_eq, List.cons_append, List.nil_append]
            go_wp2
            go_ret
            exact ⟨by first | (rw [HF.out]; done) | (rw [HF.out]; rfl), by (refine bel_out ?_; (focus (repeat' first | (with_reducible refine bel_refl ?_) | with_reducible assumption | with_reducible refine bel_drew ?_ | with_reducible refine bel_drewN _ ?_ | with_reducible refine bel_alloc _ ?_ | with_reducible refine bel_set ?_ _ ?_ | (with_reducible apply bel_call; with_reducible assumption) | (with_reducible apply bel_owg; with_reducible assumption; (focus omega)) | with_reducible exact Nat.le_refl _ | omega | (simp; done) | (simp; omega))))⟩
          · have ah : ((n : Int) == 0) = false := by rw [HL.out]; simpa using hh
            have HF : Hid (frmK 10 ⟨kd, us, nt, ts, tn, os, on, tx, z, hs⟩ = false) := Lib.hid (by first | (simp [frmK, fU, fN, fT, fO, fK, fH, hnt, hts, hos, htx, hh]; done) | (simp [frmK, fU, fN, fT, fO, fK, fH, hnt, hts, hos, htx, hh]; intros; simp_all))
            clear hnt hts hos htx hh
            go_enter Tryd.func31, Tryd.ntmps31
            simp only [List.append_eq, List.cons_append, List.nil_append]
            go_wp2
            go_ret
            exact ⟨by first | (rw [HF.out]; done) | (rw [HF.out]; rfl), by (refine bel_out ?_; (focus (repeat' first | (with_reducible refine bel_refl ?_) | with_reducible assumption | with_reducible refine bel_drew ?_ | with_reducible refine bel_drewN _ ?_ | with_reducible refine bel_alloc _ ?_ | with_reducible refine bel_set ?_ _ ?_ | (with_reducible apply bel_call; with_reducible assumption) | (with_reducible apply bel_owg; with_reducible assumption; (focus omega)) | with_reducible exact Nat.le_refl _ | omega | (simp; done) | (simp; omega))))⟩
        · obtain ⟨atx, btx, ctx, dtx⟩ := str_ne htx
          have HF : Hid (frmK 10 ⟨kd, us, nt, ts, tn, os, on, tx, z, hs⟩ = false) := Lib.hid (by first | (simp [frmK, fU, fN, fT, fO, fK, fH, hnt, hts, hos, htx]; done) | (simp [frmK, fU, fN, fT, fO, fK, fH, hnt, hts, hos, htx]; intros; simp_all))
          clear hnt hts hos htx
          go_enter Tryd.func31, Tryd.ntmps31
          simp only [List.append_eq, List.cons_append, List.nil_append]
          go_wp2
          go_ret
          exact ⟨by first | (rw [HF.out]; done) | (rw [HF.out]; rfl), by (refine bel_out ?_; (focus (repeat' first | (with_reducible refine bel_refl ?_) | with_reducible assumption | with_reducible refine bel_drew ?_ | with_reducible refine bel_drewN _ ?_ | with_reducible refine bel_alloc _ ?_ | with_reducible refine bel_set ?_ _ ?_ | (with_reducible apply bel_call; with_reducible assumption) | (with_reducible apply bel_owg; with_reducible assumption; (focus omega)) | with_reducible exact Nat.le_refl _ | omega | (simp; done) | (simp; omega))))⟩
      · rw [show decide (os = 0 ∧ on = ⟨#[]⟩) = false from decide_eq_false (fun e => hos ⟨e.1, by rw [e.2]; rfl⟩)] at zos
        have gos : (os == 0 && decide (on.size = 0)) = false := by rw [Bool.eq_false_iff]; intro e; rw [Bool.and_eq_true] at e; exact hos ⟨by simpa using e.1, of_decide_eq_true e.2⟩
        have HF : Hid (frmK 10 ⟨kd, us, nt, ts, tn, os, on, tx, z, hs⟩ = false) := Lib.hid (by first | (simp [frmK, fU, fN, fT, fO, fK, fH, hnt, hts, hos]; done) | (simp [frmK, fU, fN, fT, fO, fK, fH, hnt, hts, hos]; intros; simp_all))
        clear hnt hts hos
        go_enter Tryd.func31, Tryd.ntmps31
        simp only [List.append_eq, List.cons_append, List.nil_append]
        go_wp2
        go_ret
        exact ⟨by first | (rw [HF.out]; done) | (rw [HF.out]; rfl), by (refine bel_out ?_; (focus (repeat' first | (with_reducible refine bel_refl ?_) | with_reducible assumption | with_reducible refine bel_drew ?_ | with_reducible refine bel_drewN _ ?_ | with_reducible refine bel_alloc _ ?_ | with_reducible refine bel_set ?_ _ ?_ | (with_reducible apply bel_call; with_reducible assumption) | (with_reducible apply bel_owg; with_reducible assumption; (focus omega)) | with_reducible exact Nat.le_refl _ | omega | (simp; done) | (simp; omega))))⟩
    · rw [show decide (ts = 0 ∧ tn = ⟨#[]⟩) = false from decide_eq_false (fun e => hts ⟨e.1, by rw [e.2]; rfl⟩)] at zts
      have gts : (ts == 0 && decide (tn.size = 0)) = false := by rw [Bool.eq_false_iff]; intro e; rw [Bool.and_eq_true] at e; exact hts ⟨by simpa using e.1, of_decide_eq_true e.2⟩
      have HF : Hid (frmK 10 ⟨kd, us, nt, ts, tn, os, on, tx, z, hs⟩ = false) := Lib.hid (by first | (simp [frmK, fU, fN, fT, fO, fK, fH, hnt, hts]; done) | (simp [frmK, fU, fN, fT, fO, fK, fH, hnt, hts]; intros; simp_all))
      clear hnt hts
      go_enter Tryd.func31, Tryd.ntmps31
      simp only [List.append_eq, List.cons_append, List.nil_append]
      go_wp2
      go_ret
      exact ⟨by first | (rw [HF.out]; done) | (rw [HF.out]; rfl), by (refine bel_out ?_; (focus (repeat' first | (with_reducible refine bel_refl ?_) | with_reducible assumption | with_reducible refine bel_drew ?_ | with_reducible refine bel_drewN _ ?_ | with_reducible refine bel_alloc _ ?_ | with_reducible refine bel_set ?_ _ ?_ | (with_reducible apply bel_call; with_reducible assumption) | (with_reducible apply bel_owg; with_reducible assumption; (focus omega)) | with_reducible exact Nat.le_refl _ | omega | (simp; done) | (simp; omega))))⟩
  · obtain ⟨ant, bnt, cnt, dnt⟩ := str_ne hnt
    have HF : Hid (frmK 10 ⟨kd, us, nt, ts, tn, os, on, tx, z, hs⟩ = false) := Lib.hid (by first | (simp [frmK, fU, fN, fT, fO, fK, fH, hnt]; done) | (simp [frmK, fU, fN, fT, fO, fK, fH, hnt]; intros; simp_all))
    clear hnt
    go_enter Tryd.func31, Tryd.ntmps31
    simp only [List.append_eq, List.cons_append, List.nil_append]
    go_wp2
    go_ret
    exact ⟨by first | (rw [HF.out]; done) | (rw [HF.out]; rfl), by (refine bel_out ?_; (focus (repeat' first | (with_reducible refine bel_refl ?_) | with_reducible assumption | with_reducible refine bel_drew ?_ | with_reducible refine bel_drewN _ ?_ | with_reducible refine bel_alloc _ ?_ | with_reducible refine bel_set ?_ _ ?_ | (with_reducible apply bel_call; with_reducible assumption) | (with_reducible apply bel_owg; with_reducible assumption; (focus omega)) | with_reducible exact Nat.le_refl _ | omega | (simp; done) | (simp; omega))))⟩
end Go.Proofs.YtbeijpajodgpeaaDoor
