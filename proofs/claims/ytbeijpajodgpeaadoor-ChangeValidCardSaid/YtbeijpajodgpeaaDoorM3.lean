/- The walk of formed. Printed by gen_formed.py -/
import Derived.Test.YtbeijpajodgpeaaDoorC2
import Derived.Test.YtbeijpajodgpeaaDoorTab
import Derived.Laws.StructEq
namespace Go.Proofs.YtbeijpajodgpeaaDoor
open Go.RowKit
set_option linter.unusedSimpArgs false
set_option linter.unusedVariables false

theorem strs_iff (a b : ByteArray) : (a.toList = b.toList) = (a = b) := by
  have := str_beq a b
  by_cases h : a = b
  · subst h; simp
  · rw [decide_eq_false h] at this
    simp [h]
    simpa using this
theorem run_eq_title (x : Int) (s : ByteArray) (y : Int) (t : ByteArray) (W : World) :
    (binOp .eql 28 (.agg #[.int .i64 x, .string s]) (.agg #[.int .i64 y, .string t])).run Tryd.prog W = .ok (.bool (decide (x = y ∧ s = t))) W := by
  have h1 : Tryd.prog.underlying 28 = some (.struct (Tryd.prog.fieldsOf 28)) := by kernel_rfl
  have h2 : Tryd.prog.stoodInHeld 28 = false := by kernel_rfl
  rw [run_eql_struct, run_equalIn_struct W _ _ _ _ h1 h2]
  simp [go_sem]
  simp only [strs_iff]
  by_cases e1 : x = y <;> by_cases e2 : s = t <;> simp [e1, e2]
theorem run_neq_title (x : Int) (s : ByteArray) (y : Int) (t : ByteArray) (W : World) :
    (binOp .neq 28 (.agg #[.int .i64 x, .string s]) (.agg #[.int .i64 y, .string t])).run Tryd.prog W = .ok (.bool (!decide (x = y ∧ s = t))) W := by
  have h1 : Tryd.prog.underlying 28 = some (.struct (Tryd.prog.fieldsOf 28)) := by kernel_rfl
  have h2 : Tryd.prog.stoodInHeld 28 = false := by kernel_rfl
  rw [run_neq_struct, run_equalIn_struct W _ _ _ _ h1 h2]
  simp [go_sem]
  simp only [strs_iff]
  by_cases e1 : x = y <;> by_cases e2 : s = t <;> simp [e1, e2]
theorem title_guard : Tryd.prog.eqGuardType Tryd.prog.depth 28 = false := by kernel_rfl
/-- formed, at a kind's fields -/
def frmK (k : Int) (c : Cg) : Bool := (fU k || decide (c.us.size = 0)) && (fN k || decide (c.nt.size = 0)) && (fT k || (decide (c.ts = 0) && decide (c.tn.size = 0))) && (fO k || (decide (c.os = 0) && decide (c.on.size = 0))) && (fN k || decide (c.tx.size = 0)) && (fK k || decide (c.n = 0)) && (fH k || decide (c.hs.length = 0))
def RFrm (k : Int) (c : Cg) (w : World) (e : Ending) (w' : World) : Prop := e = .returned (.bool (frmK k c)) ∧ Below w.heap.size w w'
theorem str_e {x : ByteArray} (h : x.size = 0) : x.toList = [] ∧ x.toList.isEmpty = true ∧ (x.toList == []) = true := by
  have e : x.toList = [] := by rw [ByteArray.toList_eq, ba_nil h]
  exact ⟨e, by rw [e]; rfl, by rw [e]; rfl⟩
end Go.Proofs.YtbeijpajodgpeaaDoor
/- The walk of formed, C3a. Printed by gen_formed.py -/
namespace Go.Proofs.YtbeijpajodgpeaaDoor
open Go.RowKit
set_option linter.unusedSimpArgs false
set_option linter.unusedVariables false
set_option maxRecDepth 100000 in
set_option maxHeartbeats 16000000 in
theorem formed_1 (c : Cg) (A : Option Addr) (n cp : Nat) (w : World) (hn : n = c.hs.length) :
    Calls Tryd.prog 31 #[cval c A n cp, usesF 1] w (RFrm 1 c w) := by
  have hgt := title_guard
  have hub : ∀ b : Bool, (some undef = some (Value.bool b)) = False := fun b => by simp [undef]
  have hub2 : ∀ b : Bool, (undef = Value.bool b) = False := fun b => by simp [undef]
  obtain ⟨kd, us, nt, ts, tn, os, on, tx, z, hs⟩ := c
  unfold cval RFrm
  have e : usesF 1 = .agg #[.bool true, .bool true, .bool true, .bool false, .bool true, .bool false, .bool false] := rfl
  rw [e]
  clear e
  have HL := Lib.hid hn
  clear hn
  have zos := run_eq_title os on 0 ⟨#[]⟩
  by_cases hos : os = 0 ∧ on.size = 0
  · rw [show decide (os = 0 ∧ on = ⟨#[]⟩) = true from decide_eq_true ⟨hos.1, ba_nil hos.2⟩] at zos
    by_cases hz : z = 0
    · have az : (z == 0) = true := by simpa using hz
      by_cases hh : hs.length = 0
      · have ah : ((n : Int) == 0) = true := by rw [HL.out]; simpa using hh
        have HF : Hid (frmK 1 ⟨kd, us, nt, ts, tn, os, on, tx, z, hs⟩ = true) := Lib.hid (by first | (simp [frmK, fU, fN, fT, fO, fK, fH, hos, hz, hh]; done) | (simp [frmK, fU, fN, fT, fO, fK, fH, hos, hz, hh]; intros; simp_all))
        clear hos hz hh
        go_enter Tryd.func31, Tryd.ntmps31
        simp only [List.append_eq, List.cons_append, List.nil_append]
        go_wp2
        go_ret
        exact ⟨by first | (rw [HF.out]; done) | (rw [HF.out]; rfl), by (refine bel_out ?_; (focus (repeat' first | (with_reducible refine bel_refl ?_) | with_reducible assumption | with_reducible refine bel_drew ?_ | with_reducible refine bel_drewN _ ?_ | with_reducible refine bel_alloc _ ?_ | with_reducible refine bel_set ?_ _ ?_ | (with_reducible apply bel_call; with_reducible assumption) | (with_reducible apply bel_owg; with_reducible assumption; (focus omega)) | with_reducible exact Nat.le_refl _ | omega | (simp; done) | (simp; omega))))⟩
      · have ah : ((n : Int) == 0) = false := by rw [HL.out]; simpa using hh
        have HF : Hid (frmK 1 ⟨kd, us, nt, ts, tn, os, on, tx, z, hs⟩ = false) := Lib.hid (by first | (simp [frmK, fU, fN, fT, fO, fK, fH, hos, hz, hh]; done) | (simp [frmK, fU, fN, fT, fO, fK, fH, hos, hz, hh]; intros; simp_all))
        clear hos hz hh
        go_enter Tryd.func31, Tryd.ntmps31
        simp only [List.append_eq, List.cons_append, List.nil_append]
        go_wp2
        go_ret
        exact ⟨by first | (rw [HF.out]; done) | (rw [HF.out]; rfl), by (refine bel_out ?_; (focus (repeat' first | (with_reducible refine bel_refl ?_) | with_reducible assumption | with_reducible refine bel_drew ?_ | with_reducible refine bel_drewN _ ?_ | with_reducible refine bel_alloc _ ?_ | with_reducible refine bel_set ?_ _ ?_ | (with_reducible apply bel_call; with_reducible assumption) | (with_reducible apply bel_owg; with_reducible assumption; (focus omega)) | with_reducible exact Nat.le_refl _ | omega | (simp; done) | (simp; omega))))⟩
    · have az : (z == 0) = false := by simpa using hz
      have HF : Hid (frmK 1 ⟨kd, us, nt, ts, tn, os, on, tx, z, hs⟩ = false) := Lib.hid (by first | (simp [frmK, fU, fN, fT, fO, fK, fH, hos, hz]; done) | (simp [frmK, fU, fN, fT, fO, fK, fH, hos, hz]; intros; simp_all))
      clear hos hz
      go_enter Tryd.func31, Tryd.ntmps31
      simp only [List.append_eq, List.cons_append, List.nil_append]
      go_wp2
      go_ret
      exact ⟨by first | (rw [HF.out]; done) | (rw [HF.out]; rfl), by (refine bel_out ?_; (focus (repeat' first | (with_reducible refine bel_refl ?_) | with_reducible assumption | with_reducible refine bel_drew ?_ | with_reducible refine bel_drewN _ ?_ | with_reducible refine bel_alloc _ ?_ | with_reducible refine bel_set ?_ _ ?_ | (with_reducible apply bel_call; with_reducible assumption) | (with_reducible apply bel_owg; with_reducible assumption; (focus omega)) | with_reducible exact Nat.le_refl _ | omega | (simp; done) | (simp; omega))))⟩
  · rw [show decide (os = 0 ∧ on = ⟨#[]⟩) = false from decide_eq_false (fun e => hos ⟨e.1, by rw [e.2]; rfl⟩)] at zos
    have gos : (os == 0 && decide (on.size = 0)) = false := by rw [Bool.eq_false_iff]; intro e; rw [Bool.and_eq_true] at e; exact hos ⟨by simpa using e.1, of_decide_eq_true e.2⟩
    have HF : Hid (frmK 1 ⟨kd, us, nt, ts, tn, os, on, tx, z, hs⟩ = false) := Lib.hid (by first | (simp [frmK, fU, fN, fT, fO, fK, fH, hos]; done) | (simp [frmK, fU, fN, fT, fO, fK, fH, hos]; intros; simp_all))
    clear hos
    go_enter Tryd.func31, Tryd.ntmps31
    simp only [List.append_eq, List.cons_append, List.nil_append]
    go_wp2
    go_ret
    exact ⟨by first | (rw [HF.out]; done) | (rw [HF.out]; rfl), by (refine bel_out ?_; (focus (repeat' first | (with_reducible refine bel_refl ?_) | with_reducible assumption | with_reducible refine bel_drew ?_ | with_reducible refine bel_drewN _ ?_ | with_reducible refine bel_alloc _ ?_ | with_reducible refine bel_set ?_ _ ?_ | (with_reducible apply bel_call; with_reducible assumption) | (with_reducible apply bel_owg; with_reducible assumption; (focus omega)) | with_reducible exact Nat.le_refl _ | omega | (simp; done) | (simp; omega))))⟩
set_option maxRecDepth 100000 in
set_option maxHeartbeats 16000000 in
theorem formed_9 (c : Cg) (A : Option Addr) (n cp : Nat) (w : World) (hn : n = c.hs.length) :
    Calls Tryd.prog 31 #[cval c A n cp, usesF 9] w (RFrm 9 c w) := by
  have hgt := title_guard
  have hub : ∀ b : Bool, (some undef = some (Value.bool b)) = False := fun b => by simp [undef]
  have hub2 : ∀ b : Bool, (undef = Value.bool b) = False := fun b => by simp [undef]
  obtain ⟨kd, us, nt, ts, tn, os, on, tx, z, hs⟩ := c
  unfold cval RFrm
  have e : usesF 9 = .agg #[.bool true, .bool true, .bool true, .bool false, .bool true, .bool true, .bool false] := rfl
  rw [e]
  clear e
  have HL := Lib.hid hn
  clear hn
  have zos := run_eq_title os on 0 ⟨#[]⟩
  by_cases hos : os = 0 ∧ on.size = 0
  · rw [show decide (os = 0 ∧ on = ⟨#[]⟩) = true from decide_eq_true ⟨hos.1, ba_nil hos.2⟩] at zos
    by_cases hh : hs.length = 0
    · have ah : ((n : Int) == 0) = true := by rw [HL.out]; simpa using hh
      have HF : Hid (frmK 9 ⟨kd, us, nt, ts, tn, os, on, tx, z, hs⟩ = true) := Lib.hid (by first | (simp [frmK, fU, fN, fT, fO, fK, fH, hos, hh]; done) | (simp [frmK, fU, fN, fT, fO, fK, fH, hos, hh]; intros; simp_all))
      clear hos hh
      go_enter Tryd.func31, Tryd.ntmps31
      simp only [List.append_eq, List.cons_append, List.nil_append]
      go_wp2
      go_ret
      exact ⟨by first | (rw [HF.out]; done) | (rw [HF.out]; rfl), by (refine bel_out ?_; (focus (repeat' first | (with_reducible refine bel_refl ?_) | with_reducible assumption | with_reducible refine bel_drew ?_ | with_reducible refine bel_drewN _ ?_ | with_reducible refine bel_alloc _ ?_ | with_reducible refine bel_set ?_ _ ?_ | (with_reducible apply bel_call; with_reducible assumption) | (with_reducible apply bel_owg; with_reducible assumption; (focus omega)) | with_reducible exact Nat.le_refl _ | omega | (simp; done) | (simp; omega))))⟩
    · have ah : ((n : Int) == 0) = false := by rw [HL.out]; simpa using hh
      have HF : Hid (frmK 9 ⟨kd, us, nt, ts, tn, os, on, tx, z, hs⟩ = false) := Lib.hid (by first | (simp [frmK, fU, fN, fT, fO, fK, fH, hos, hh]; done) | (simp [frmK, fU, fN, fT, fO, fK, fH, hos, hh]; intros; simp_all))
      clear hos hh
      go_enter Tryd.func31, Tryd.ntmps31
      simp only [List.append_eq, List.cons_append, List.nil_append]
      go_wp2
      go_ret
      exact ⟨by first | (rw [HF.out]; done) | (rw [HF.out]; rfl), by (refine bel_out ?_; (focus (repeat' first | (with_reducible refine bel_refl ?_) | with_reducible assumption | with_reducible refine bel_drew ?_ | with_reducible refine bel_drewN _ ?_ | with_reducible refine bel_alloc _ ?_ | with_reducible refine bel_set ?_ _ ?_ | (with_reducible apply bel_call; with_reducible assumption) | (with_reducible apply bel_owg; with_reducible assumption; (focus omega)) | with_reducible exact Nat.le_refl _ | omega | (simp; done) | (simp; omega))))⟩
  · rw [show decide (os = 0 ∧ on = ⟨#[]⟩) = false from decide_eq_false (fun e => hos ⟨e.1, by rw [e.2]; rfl⟩)] at zos
    have gos : (os == 0 && decide (on.size = 0)) = false := by rw [Bool.eq_false_iff]; intro e; rw [Bool.and_eq_true] at e; exact hos ⟨by simpa using e.1, of_decide_eq_true e.2⟩
    have HF : Hid (frmK 9 ⟨kd, us, nt, ts, tn, os, on, tx, z, hs⟩ = false) := Lib.hid (by first | (simp [frmK, fU, fN, fT, fO, fK, fH, hos]; done) | (simp [frmK, fU, fN, fT, fO, fK, fH, hos]; intros; simp_all))
    clear hos
    go_enter Tryd.func31, Tryd.ntmps31
    simp only [List.append_eq, List.cons_append, List.nil_append]
    go_wp2
    go_ret
    exact ⟨by first | (rw [HF.out]; done) | (rw [HF.out]; rfl), by (refine bel_out ?_; (focus (repeat' first | (with_reducible refine bel_refl ?_) | with_reducible assumption | with_reducible refine bel_drew ?_ | with_reducible refine bel_drewN _ ?_ | with_reducible refine bel_alloc _ ?_ | with_reducible refine bel_set ?_ _ ?_ | (with_reducible apply bel_call; with_reducible assumption) | (with_reducible apply bel_owg; with_reducible assumption; (focus omega)) | with_reducible exact Nat.le_refl _ | omega | (simp; done) | (simp; omega))))⟩
end Go.Proofs.YtbeijpajodgpeaaDoor
/- The walk of formed, C3b. Printed by gen_formed.py -/
namespace Go.Proofs.YtbeijpajodgpeaaDoor
open Go.RowKit
set_option linter.unusedSimpArgs false
set_option linter.unusedVariables false
set_option maxRecDepth 100000 in
set_option maxHeartbeats 16000000 in
theorem formed_2 (c : Cg) (A : Option Addr) (n cp : Nat) (w : World) (hn : n = c.hs.length) :
    Calls Tryd.prog 31 #[cval c A n cp, usesF 2] w (RFrm 2 c w) := by
  have hgt := title_guard
  have hub : ∀ b : Bool, (some undef = some (Value.bool b)) = False := fun b => by simp [undef]
  have hub2 : ∀ b : Bool, (undef = Value.bool b) = False := fun b => by simp [undef]
  obtain ⟨kd, us, nt, ts, tn, os, on, tx, z, hs⟩ := c
  unfold cval RFrm
  have e : usesF 2 = .agg #[.bool true, .bool false, .bool true, .bool false, .bool false, .bool false, .bool false] := rfl
  rw [e]
  clear e
  have HL := Lib.hid hn
  clear hn
  by_cases hnt : nt.size = 0
  · obtain ⟨ant, bnt, cnt⟩ := str_e hnt
    have zos := run_eq_title os on 0 ⟨#[]⟩
    by_cases hos : os = 0 ∧ on.size = 0
    · rw [show decide (os = 0 ∧ on = ⟨#[]⟩) = true from decide_eq_true ⟨hos.1, ba_nil hos.2⟩] at zos
      by_cases htx : tx.size = 0
      · obtain ⟨atx, btx, ctx⟩ := str_e htx
        by_cases hz : z = 0
        · have az : (z == 0) = true := by simpa using hz
          by_cases hh : hs.length = 0
          · have ah : ((n : Int) == 0) = true := by rw [HL.out]; simpa using hh
            have HF : Hid (frmK 2 ⟨kd, us, nt, ts, tn, os, on, tx, z, hs⟩ = true) := Lib.hid (by first | (simp [frmK, fU, fN, fT, fO, fK, fH, hnt, hos, htx, hz, hh]; done) | (simp [frmK, fU, fN, fT, fO, fK, fH, hnt, hos, htx, hz, hh]; intros; simp_all))
            clear hnt hos htx hz hh
            go_enter Tryd.func31, Tryd.ntmps31
            simp only [List.append_eq, List.cons_append, List.nil_append]
            go_wp2
            go_ret
            exact ⟨by first | (rw [HF.out]; done) | (rw [HF.out]; rfl), by (refine bel_out ?_; (focus (repeat' first | (with_reducible refine bel_refl ?_) | with_reducible assumption | with_reducible refine bel_drew ?_ | with_reducible refine bel_drewN _ ?_ | with_reducible refine bel_alloc _ ?_ | with_reducible refine bel_set ?_ _ ?_ | (with_reducible apply bel_call; with_reducible assumption) | (with_reducible apply bel_owg; with_reducible assumption; (focus omega)) | with_reducible exact Nat.le_refl _ | omega | (simp; done) | (simp; omega))))⟩
          · have ah : ((n : Int) == 0) = false := by rw [HL.out]; simpa using hh
            have HF : Hid (frmK 2 ⟨kd, us, nt, ts, tn, os, on, tx, z, hs⟩ = false) := Lib.hid (by first | (simp [frmK, fU, fN, fT, fO, fK, fH, hnt, hos, htx, hz, hh]; done) | (simp [frmK, fU, fN, fT, fO, fK, fH, hnt, hos, htx, hz, hh]; intros; simp_all))
            clear hnt hos htx hz hh
            go_enter Tryd.func31, Tryd.ntmps31
            simp only [List.append_eq, List.cons_append, List.nil_append]
            go_wp2
            go_ret
            exact ⟨by first | (rw [HF.out]; done) | (rw [HF.out]; rfl), by (refine bel_out ?_; (focus (repeat' first | (with_reducible refine bel_refl ?_) | with_reducible assumption | with_reducible refine bel_drew ?_ | with_reducible refine bel_drewN _ ?_ | with_reducible refine bel_alloc _ ?_ | with_reducible refine bel_set ?_ _ ?_ | (with_reducible apply bel_call; with_reducible assumption) | (with_reducible apply bel_owg; with_reducible assumption; (focus omega)) | with_reducible exact Nat.le_refl _ | omega | (simp; done) | (simp; omega))))⟩
        · have az : (z == 0) = false := by simpa using hz
          have HF : Hid (frmK 2 ⟨kd, us, nt, ts, tn, os, on, tx, z, hs⟩ = false) := Lib.hid (by first | (simp [frmK, fU, fN, fT, fO, fK, fH, hnt, hos, htx, hz]; done) | (simp [frmK, fU, fN, fT, fO, fK, fH, hnt, hos, htx, hz]; intros; simp_all))
          clear hnt hos htx hz
          go_enter Tryd.func31, Tryd.ntmps31
          simp only [List.append_eq, List.cons_append, List.nil_append]
          go_wp2
          go_ret
          exact ⟨by first | (rw [HF.out]; done) | (rw [HF.out]; rfl), by (refine bel_out ?_; (focus (repeat' first | (with_reducible refine bel_refl ?_) | with_reducible assumption | with_reducible refine bel_drew ?_ | with_reducible refine bel_drewN _ ?_ | with_reducible refine bel_alloc _ ?_ | with_reducible refine bel_set ?_ _ ?_ | (with_reducible apply bel_call; with_reducible assumption) | (with_reducible apply bel_owg; with_reducible assumption; (focus omega)) | with_reducible exact Nat.le_refl _ | omega | (simp; done) | (simp; omega))))⟩
      · obtain ⟨atx, btx, ctx, dtx⟩ := str_ne htx
        have HF : Hid (frmK 2 ⟨kd, us, nt, ts, tn, os, on, tx, z, hs⟩ = false) := Lib.hid (by first | (simp [frmK, fU, fN, fT, fO, fK, fH, hnt, hos, htx]; done) | (simp [frmK, fU, fN, fT, fO, fK, fH, hnt, hos, htx]; intros; simp_all))
        clear hnt hos htx
        go_enter Tryd.func31, Tryd.ntmps31
        simp only [List.append_eq, List.cons_append, List.nil_append]
        go_wp2
        go_ret
        exact ⟨by first | (rw [HF.out]; done) | (rw [HF.out]; rfl), by (refine bel_out ?_; (focus (repeat' first | (with_reducible refine bel_refl ?_) | with_reducible assumption | with_reducible refine bel_drew ?_ | with_reducible refine bel_drewN _ ?_ | with_reducible refine bel_alloc _ ?_ | with_reducible refine bel_set ?_ _ ?_ | (with_reducible apply bel_call; with_reducible assumption) | (with_reducible apply bel_owg; with_reducible assumption; (focus omega)) | with_reducible exact Nat.le_refl _ | omega | (simp; done) | (simp; omega))))⟩
    · rw [show decide (os = 0 ∧ on = ⟨#[]⟩) = false from decide_eq_false (fun e => hos ⟨e.1, by rw [e.2]; rfl⟩)] at zos
      have gos : (os == 0 && decide (on.size = 0)) = false := by rw [Bool.eq_false_iff]; intro e; rw [Bool.and_eq_true] at e; exact hos ⟨by simpa using e.1, of_decide_eq_true e.2⟩
      have HF : Hid (frmK 2 ⟨kd, us, nt, ts, tn, os, on, tx, z, hs⟩ = false) := Lib.hid (by first | (simp [frmK, fU, fN, fT, fO, fK, fH, hnt, hos]; done) | (simp [frmK, fU, fN, fT, fO, fK, fH, hnt, hos]; intros; simp_all))
      clear hnt hos
      go_enter Tryd.func31, Tryd.ntmps31
      simp only [List.append_eq, List.cons_append, List.nil_append]
      go_wp2
      go_ret
      exact ⟨by first | (rw [HF.out]; done) | (rw [HF.out]; rfl), by (refine bel_out ?_; (focus (repeat' first | (with_reducible refine bel_refl ?_) | with_reducible assumption | with_reducible refine bel_drew ?_ | with_reducible refine bel_drewN _ ?_ | with_reducible refine bel_alloc _ ?_ | with_reducible refine bel_set ?_ _ ?_ | (with_reducible apply bel_call; with_reducible assumption) | (with_reducible apply bel_owg; with_reducible assumption; (focus omega)) | with_reducible exact Nat.le_refl _ | omega | (simp; done) | (simp; omega))))⟩
  · obtain ⟨ant, bnt, cnt, dnt⟩ := str_ne hnt
    have HF : Hid (frmK 2 ⟨kd, us, nt, ts, tn, os, on, tx, z, hs⟩ = false) := Lib.hid (by first | (simp [frmK, fU, fN, fT, fO, fK, fH, hnt]; done) | (simp [frmK, fU, fN, fT, fO, fK, fH, hnt]; intros; simp_all))
    clear hnt
    go_enter Tryd.func31, Tryd.ntmps31
    simp only [List.append_eq, List.cons_append, List.nil_append]
    go_wp2
    go_ret
    exact ⟨by first | (rw [HF.out]; done) | (rw [HF.out]; rfl), by (refine bel_out ?_; (focus (repeat' first | (with_reducible refine bel_refl ?_) | with_reducible assumption | with_reducible refine bel_drew ?_ | with_reducible refine bel_drewN _ ?_ | with_reducible refine bel_alloc _ ?_ | with_reducible refine bel_set ?_ _ ?_ | (with_reducible apply bel_call; with_reducible assumption) | (with_reducible apply bel_owg; with_reducible assumption; (focus omega)) | with_reducible exact Nat.le_refl _ | omega | (simp; done) | (simp; omega))))⟩
end Go.Proofs.YtbeijpajodgpeaaDoor
/- The walk of formed, C3c. Printed by gen_formed.py -/
namespace Go.Proofs.YtbeijpajodgpeaaDoor
open Go.RowKit
set_option linter.unusedSimpArgs false
set_option linter.unusedVariables false
set_option maxRecDepth 100000 in
set_option maxHeartbeats 16000000 in
theorem formed_4 (c : Cg) (A : Option Addr) (n cp : Nat) (w : World) (hn : n = c.hs.length) :
    Calls Tryd.prog 31 #[cval c A n cp, usesF 4] w (RFrm 4 c w) := by
  have hgt := title_guard
  have hub : ∀ b : Bool, (some undef = some (Value.bool b)) = False := fun b => by simp [undef]
  have hub2 : ∀ b : Bool, (undef = Value.bool b) = False := fun b => by simp [undef]
  obtain ⟨kd, us, nt, ts, tn, os, on, tx, z, hs⟩ := c
  unfold cval RFrm
  have e : usesF 4 = .agg #[.bool true, .bool false, .bool true, .bool true, .bool false, .bool true, .bool false] := rfl
  rw [e]
  clear e
  have HL := Lib.hid hn
  clear hn
  by_cases hnt : nt.size = 0
  · obtain ⟨ant, bnt, cnt⟩ := str_e hnt
    by_cases htx : tx.size = 0
    · obtain ⟨atx, btx, ctx⟩ := str_e htx
      by_cases hh : hs.length = 0
      · have ah : ((n : Int) == 0) = true := by rw [HL.out]; simpa using hh
        have HF : Hid (frmK 4 ⟨kd, us, nt, ts, tn, os, on, tx, z, hs⟩ = true) := Lib.hid (by first | (simp [frmK, fU, fN, fT, fO, fK, fH, hnt, htx, hh]; done) | (simp [frmK, fU, fN, fT, fO, fK, fH, hnt, htx, hh]; intros; simp_all))
        clear hnt htx hh
        go_enter Tryd.func31, Tryd.ntmps31
        simp only [List.append_eq, List.cons_append, List.nil_append]
        go_wp2
        go_ret
        exact ⟨by first | (rw [HF.out]; done) | (rw [HF.out]; rfl), by (refine bel_out ?_; (focus (repeat' first | (with_reducible refine bel_refl ?_) | with_reducible assumption | with_reducible refine bel_drew ?_ | with_reducible refine bel_drewN _ ?_ | with_reducible refine bel_alloc _ ?_ | with_reducible refine bel_set ?_ _ ?_ | (with_reducible apply bel_call; with_reducible assumption) | (with_reducible apply bel_owg; with_reducible assumption; (focus omega)) | with_reducible exact Nat.le_refl _ | omega | (simp; done) | (simp; omega))))⟩
      · have ah : ((n : Int) == 0) = false := by rw [HL.out]; simpa using hh
        have HF : Hid (frmK 4 ⟨kd, us, nt, ts, tn, os, on, tx, z, hs⟩ = false) := Lib.hid (by first | (simp [frmK, fU, fN, fT, fO, fK, fH, hnt, htx, hh]; done) | (simp [frmK, fU, fN, fT, fO, fK, fH, hnt, htx, hh]; intros; simp_all))
        clear hnt htx hh
        go_enter Tryd.func31, Tryd.ntmps31
        simp only [List.append_eq, List.cons_append, List.nil_append]
        go_wp2
        go_ret
        exact ⟨by first | (rw [HF.out]; done) | (rw [HF.out]; rfl), by (refine bel_out ?_; (focus (repeat' first | (with_reducible refine bel_refl ?_) | with_reducible assumption | with_reducible refine bel_drew ?_ | with_reducible refine bel_drewN _ ?_ | with_reducible refine bel_alloc _ ?_ | with_reducible refine bel_set ?_ _ ?_ | (with_reducible apply bel_call; with_reducible assumption) | (with_reducible apply bel_owg; with_reducible assumption; (focus omega)) | with_reducible exact Nat.le_refl _ | omega | (simp; done) | (simp; omega))))⟩
    · obtain ⟨atx, btx, ctx, dtx⟩ := str_ne htx
      have HF : Hid (frmK 4 ⟨kd, us, nt, ts, tn, os, on, tx, z, hs⟩ = false) := Lib.hid (by first | (simp [frmK, fU, fN, fT, fO, fK, fH, hnt, htx]; done) | (simp [frmK, fU, fN, fT, fO, fK, fH, hnt, htx]; intros; simp_all))
      clear hnt htx
      go_enter Tryd.func31, Tryd.ntmps31
      simp only [List.append_eq, List.cons_append, List.nil_append]
      go_wp2
      go_ret
      exact ⟨by first | (rw [HF.out]; done) | (rw [HF.out]; rfl), by (refine bel_out ?_; (focus (repeat' first | (with_reducible refine bel_refl ?_) | with_reducible assumption | with_reducible refine bel_drew ?_ | with_reducible refine bel_drewN _ ?_ | with_reducible refine bel_alloc _ ?_ | with_reducible refine bel_set ?_ _ ?_ | (with_reducible apply bel_call; with_reducible assumption) | (with_reducible apply bel_owg; with_reducible assumption; (focus omega)) | with_reducible exact Nat.le_refl _ | omega | (simp; done) | (simp; omega))))⟩
  · obtain ⟨ant, bnt, cnt, dnt⟩ := str_ne hnt
    have HF : Hid (frmK 4 ⟨kd, us, nt, ts, tn, os, on, tx, z, hs⟩ = false) := Lib.hid (by first | (simp [frmK, fU, fN, fT, fO, fK, fH, hnt]; done) | (simp [frmK, fU, fN, fT, fO, fK, fH, hnt]; intros; simp_all))
    clear hnt
    go_enter Tryd.func31, Tryd.ntmps31
    simp only [List.append_eq, List.cons_append, List.nil_append]
    go_wp2
    go_ret
    exact ⟨by first | (rw [HF.out]; done) | (rw [HF.out]; rfl), by (refine bel_out ?_; (focus (repeat' first | (with_reducible refine bel_refl ?_) | with_reducible assumption | with_reducible refine bel_drew ?_ | with_reducible refine bel_drewN _ ?_ | with_reducible refine bel_alloc _ ?_ | with_reducible refine bel_set ?_ _ ?_ | (with_reducible apply bel_call; with_reducible assumption) | (with_reducible apply bel_owg; with_reducible assumption; (focus omega)) | with_reducible exact Nat.le_refl _ | omega | (simp; done) | (simp; omega))))⟩
set_option maxRecDepth 100000 in
set_option maxHeartbeats 16000000 in
theorem formed_5 (c : Cg) (A : Option Addr) (n cp : Nat) (w : World) (hn : n = c.hs.length) :
    Calls Tryd.prog 31 #[cval c A n cp, usesF 5] w (RFrm 5 c w) := by
  have hgt := title_guard
  have hub : ∀ b : Bool, (some undef = some (Value.bool b)) = False := fun b => by simp [undef]
  have hub2 : ∀ b : Bool, (undef = Value.bool b) = False := fun b => by simp [undef]
  obtain ⟨kd, us, nt, ts, tn, os, on, tx, z, hs⟩ := c
  unfold cval RFrm
  have e : usesF 5 = .agg #[.bool true, .bool false, .bool true, .bool false, .bool false, .bool false, .bool true] := rfl
  rw [e]
  clear e
  have HL := Lib.hid hn
  clear hn
  by_cases hnt : nt.size = 0
  · obtain ⟨ant, bnt, cnt⟩ := str_e hnt
    have zos := run_eq_title os on 0 ⟨#[]⟩
    by_cases hos : os = 0 ∧ on.size = 0
    · rw [show decide (os = 0 ∧ on = ⟨#[]⟩) = true from decide_eq_true ⟨hos.1, ba_nil hos.2⟩] at zos
      by_cases htx : tx.size = 0
      · obtain ⟨atx, btx, ctx⟩ := str_e htx
        by_cases hz : z = 0
        · have az : (z == 0) = true := by simpa using hz
          have HF : Hid (frmK 5 ⟨kd, us, nt, ts, tn, os, on, tx, z, hs⟩ = true) := Lib.hid (by first | (simp [frmK, fU, fN, fT, fO, fK, fH, hnt, hos, htx, hz]; done) | (simp [frmK, fU, fN, fT, fO, fK, fH, hnt, hos, htx, hz]; intros; simp_all))
          clear hnt hos htx hz
          go_enter Tryd.func31, Tryd.ntmps31
          simp only [List.append_eq, List.cons_append, List.nil_append]
          go_wp2
          go_ret
          exact ⟨by first | (rw [HF.out]; done) | (rw [HF.out]; rfl), by (refine bel_out ?_; (focus (repeat' first | (with_reducible refine bel_refl ?_) | with_reducible assumption | with_reducible refine bel_drew ?_ | with_reducible refine bel_drewN _ ?_ | with_reducible refine bel_alloc _ ?_ | with_reducible refine bel_set ?_ _ ?_ | (with_reducible apply bel_call; with_reducible assumption) | (with_reducible apply bel_owg; with_reducible assumption; (focus omega)) | with_reducible exact Nat.le_refl _ | omega | (simp; done) | (simp; omega))))⟩
        · have az : (z == 0) = false := by simpa using hz
          have HF : Hid (frmK 5 ⟨kd, us, nt, ts, tn, os, on, tx, z, hs⟩ = false) := Lib.hid (by first | (simp [frmK, fU, fN, fT, fO, fK, fH, hnt, hos, htx, hz]; done) | (simp [frmK, fU, fN, fT, fO, fK, fH, hnt, hos, htx, hz]; intros; simp_all))
          clear hnt hos htx hz
          go_enter Tryd.func31, Tryd.ntmps31
          simp only [List.append_eq, List.cons_append, List.nil_append]
          go_wp2
          go_ret
          exact ⟨by first | (rw [HF.out]; done) | (rw [HF.out]; rfl), by (refine bel_out ?_; (focus (repeat' first | (with_reducible refine bel_refl ?_) | with_reducible assumption | with_reducible refine bel_drew ?_ | with_reducible refine bel_drewN _ ?_ | with_reducible refine bel_alloc _ ?_ | with_reducible refine bel_set ?_ _ ?_ | (with_reducible apply bel_call; with_reducible assumption) | (with_reducible apply bel_owg; with_reducible assumption; (focus omega)) | with_reducible exact Nat.le_refl _ | omega | (simp; done) | (simp; omega))))⟩
      · obtain ⟨atx, btx, ctx, dtx⟩ := str_ne htx
        have HF : Hid (frmK 5 ⟨kd, us, nt, ts, tn, os, on, tx, z, hs⟩ = false) := Lib.hid (by first | (simp [frmK, fU, fN, fT, fO, fK, fH, hnt, hos, htx]; done) | (simp [frmK, fU, fN, fT, fO, fK, fH, hnt, hos, htx]; intros; simp_all))
        clear hnt hos htx
        go_enter Tryd.func31, Tryd.ntmps31
        simp only [List.append_eq, List.cons_append, List.nil_append]
        go_wp2
        go_ret
        exact ⟨by first | (rw [HF.out]; done) | (rw [HF.out]; rfl), by (refine bel_out ?_; (focus (repeat' first | (with_reducible refine bel_refl ?_) | with_reducible assumption | with_reducible refine bel_drew ?_ | with_reducible refine bel_drewN _ ?_ | with_reducible refine bel_alloc _ ?_ | with_reducible refine bel_set ?_ _ ?_ | (with_reducible apply bel_call; with_reducible assumption) | (with_reducible apply bel_owg; with_reducible assumption; (focus omega)) | with_reducible exact Nat.le_refl _ | omega | (simp; done) | (simp; omega))))⟩
    · rw [show decide (os = 0 ∧ on = ⟨#[]⟩) = false from decide_eq_false (fun e => hos ⟨e.1, by rw [e.2]; rfl⟩)] at zos
      have gos : (os == 0 && decide (on.size = 0)) = false := by rw [Bool.eq_false_iff]; intro e; rw [Bool.and_eq_true] at e; exact hos ⟨by simpa using e.1, of_decide_eq_true e.2⟩
      have HF : Hid (frmK 5 ⟨kd, us, nt, ts, tn, os, on, tx, z, hs⟩ = false) := Lib.hid (by first | (simp [frmK, fU, fN, fT, fO, fK, fH, hnt, hos]; done) | (simp [frmK, fU, fN, fT, fO, fK, fH, hnt, hos]; intros; simp_all))
      clear hnt hos
      go_enter Tryd.func31, Tryd.ntmps31
      simp only [List.append_eq, List.cons_append, List.nil_append]
      go_wp2
      go_ret
      exact ⟨by first | (rw [HF.out]; done) | (rw [HF.out]; rfl), by (refine bel_out ?_; (focus (repeat' first | (with_reducible refine bel_refl ?_) | with_reducible assumption | with_reducible refine bel_drew ?_ | with_reducible refine bel_drewN _ ?_ | with_reducible refine bel_alloc _ ?_ | with_reducible refine bel_set ?_ _ ?_ | (with_reducible apply bel_call; with_reducible assumption) | (with_reducible apply bel_owg; with_reducible assumption; (focus omega)) | with_reducible exact Nat.le_refl _ | omega | (simp; done) | (simp; omega))))⟩
  · obtain ⟨ant, bnt, cnt, dnt⟩ := str_ne hnt
    have HF : Hid (frmK 5 ⟨kd, us, nt, ts, tn, os, on, tx, z, hs⟩ = false) := Lib.hid (by first | (simp [frmK, fU, fN, fT, fO, fK, fH, hnt]; done) | (simp [frmK, fU, fN, fT, fO, fK, fH, hnt]; intros; simp_all))
    clear hnt
    go_enter Tryd.func31, Tryd.ntmps31
    simp only [List.append_eq, List.cons_append, List.nil_append]
    go_wp2
    go_ret
    exact ⟨by first | (rw [HF.out]; done) | (rw [HF.out]; rfl), by (refine bel_out ?_; (focus (repeat' first | (with_reducible refine bel_refl ?_) | with_reducible assumption | with_reducible refine bel_drew ?_ | with_reducible refine bel_drewN _ ?_ | with_reducible refine bel_alloc _ ?_ | with_reducible refine bel_set ?_ _ ?_ | (with_reducible apply bel_call; with_reducible assumption) | (with_reducible apply bel_owg; with_reducible assumption; (focus omega)) | with_reducible exact Nat.le_refl _ | omega | (simp; done) | (simp; omega))))⟩
end Go.Proofs.YtbeijpajodgpeaaDoor
/- The walk of formed, C3d. Printed by gen_formed.py -/
namespace Go.Proofs.YtbeijpajodgpeaaDoor
open Go.RowKit
set_option linter.unusedSimpArgs false
set_option linter.unusedVariables false
set_option maxRecDepth 100000 in
set_option maxHeartbeats 16000000 in
theorem formed_6 (c : Cg) (A : Option Addr) (n cp : Nat) (w : World) (hn : n = c.hs.length) :
    Calls Tryd.prog 31 #[cval c A n cp, usesF 6] w (RFrm 6 c w) := by
  have hgt := title_guard
  have hub : ∀ b : Bool, (some undef = some (Value.bool b)) = False := fun b => by simp [undef]
  have hub2 : ∀ b : Bool, (undef = Value.bool b) = False := fun b => by simp [undef]
  obtain ⟨kd, us, nt, ts, tn, os, on, tx, z, hs⟩ := c
  unfold cval RFrm
  have e : usesF 6 = .agg #[.bool false, .bool false, .bool false, .bool false, .bool false, .bool true, .bool false] := rfl
  rw [e]
  clear e
  have HL := Lib.hid hn
  clear hn
  by_cases hus : us.size = 0
  · obtain ⟨aus, bus, cus⟩ := str_e hus
    by_cases hnt : nt.size = 0
    · obtain ⟨ant, bnt, cnt⟩ := str_e hnt
      have zts := run_eq_title ts tn 0 ⟨#[]⟩
      by_cases hts : ts = 0 ∧ tn.size = 0
      · rw [show decide (ts = 0 ∧ tn = ⟨#[]⟩) = true from decide_eq_true ⟨hts.1, ba_nil hts.2⟩] at zts
        have zos := run_eq_title os on 0 ⟨#[]⟩
        by_cases hos : os = 0 ∧ on.size = 0
        · rw [show decide (os = 0 ∧ on = ⟨#[]⟩) = true from decide_eq_true ⟨hos.1, ba_nil hos.2⟩] at zos
          by_cases htx : tx.size = 0
          · obtain ⟨atx, btx, ctx⟩ := str_e htx
            by_cases hh : hs.length = 0
            · have ah : ((n : Int) == 0) = true := by rw [HL.out]; simpa using hh
              have HF : Hid (frmK 6 ⟨kd, us, nt, ts, tn, os, on, tx, z, hs⟩ = true) := Lib.hid (by first | (simp [frmK, fU, fN, fT, fO, fK, fH, hus, hnt, hts, hos, htx, hh]; done) | (simp [frmK, fU, fN, fT, fO, fK, fH, hus, hnt, hts, hos, htx, hh]; intros; simp_all))
              clear hus hnt hts hos htx hh
              go_enter Tryd.func31, Tryd.ntmps31
              simp only [List.append_eq, List.cons_append, List.nil_append]
              go_wp2
              go_ret
              exact ⟨by first | (rw [HF.out]; done) | (rw [HF.out]; rfl), by (refine bel_out ?_; (focus (repeat' first | (with_reducible refine bel_refl ?_) | with_reducible assumption | with_reducible refine bel_drew ?_ | with_reducible refine bel_drewN _ ?_ | with_reducible refine bel_alloc _ ?_ | with_reducible refine bel_set ?_ _ ?_ | (with_reducible apply bel_call; with_reducible assumption) | (with_reducible apply bel_owg; with_reducible assumption; (focus omega)) | with_reducible exact Nat.le_refl _ | omega | (simp; done) | (simp; omega))))⟩
            · have ah : ((n : Int) == 0) = false := by rw [HL.out]; simpa using hh
              have HF : Hid (frmK 6 ⟨kd, us, nt, ts, tn, os, on, tx, z, hs⟩ = false) := Lib.hid (by first | (simp [frmK, fU, fN, fT, fO, fK, fH, hus, hnt, hts, hos, htx, hh]; done) | (simp [frmK, fU, fN, fT, fO, fK, fH, hus, hnt, hts, hos, htx, hh]; intros; simp_all))
              clear hus hnt hts hos htx hh
              go_enter Tryd.func31, Tryd.ntmps31
              simp only [List.append_eq, List.cons_append, List.nil_append]
              go_wp2
              go_ret
              exact ⟨by first | (rw [HF.out]; done) | (rw [HF.out]; rfl), by (refine bel_out ?_; (focus (repeat' first | (with_reducible refine bel_refl ?_) | with_reducible assumption | with_reducible refine bel_drew ?_ | with_reducible refine bel_drewN _ ?_ | with_reducible refine bel_alloc _ ?_ | with_reducible refine bel_set ?_ _ ?_ | (with_reducible apply bel_call; with_reducible assumption) | (with_reducible apply bel_owg; with_reducible assumption; (focus omega)) | with_reducible exact Nat.le_refl _ | omega | (simp; done) | (simp; omega))))⟩
          · obtain ⟨atx, btx, ctx, dtx⟩ := str_ne htx
            have HF : Hid (frmK 6 ⟨kd, us, nt, ts, tn, os, on, tx, z, hs⟩ = false) := Lib.hid (by first | (simp [frmK, fU, fN, fT, fO, fK, fH, hus, hnt, hts, hos, htx]; done) | (simp [frmK, fU, fN, fT, fO, fK, fH, hus, hnt, hts, hos, htx]; intros; simp_all))
            clear hus hnt hts hos htx
            go_enter Tryd.func31, Tryd.ntmps31
            simp only [List.append_eq, List.cons_append, List.nil_append]
            go_wp2
            go_ret
            exact ⟨by first | (rw [HF.out]; done) | (rw [HF.out]; rfl), by (refine bel_out ?_; (focus (repeat' first | (with_reducible refine bel_refl ?_) | with_reducible assumption | with_reducible refine bel_drew ?_ | with_reducible refine bel_drewN _ ?_ | with_reducible refine bel_alloc _ ?_ | with_reducible refine bel_set ?_ _ ?_ | (with_reducible apply bel_call; with_reducible assumption) | (with_reducible apply bel_owg; with_reducible assumption; (focus omega)) | with_reducible exact Nat.le_refl _ | omega | (simp; done) | (simp; omega))))⟩
        · rw [show decide (os = 0 ∧ on = ⟨#[]⟩) = false from decide_eq_false (fun e => hos ⟨e.1, by rw [e.2]; rfl⟩)] at zos
          have gos : (os == 0 && decide (on.size = 0)) = false := by rw [Bool.eq_false_iff]; intro e; rw [Bool.and_eq_true] at e; exact hos ⟨by simpa using e.1, of_decide_eq_true e.2⟩
          have HF : Hid (frmK 6 ⟨kd, us, nt, ts, tn, os, on, tx, z, hs⟩ = false) := Lib.hid (by first | (simp [frmK, fU, fN, fT, fO, fK, fH, hus, hnt, hts, hos]; done) | (simp [frmK, fU, fN, fT, fO, fK, fH, hus, hnt, hts, hos]; intros; simp_all))
          clear hus hnt hts hos
          go_enter Tryd.func31, Tryd.ntmps31
          simp only [List.append_eq, List.cons_append, List.nil_append]
          go_wp2
          go_ret
          exact ⟨by first | (rw [HF.out]; done) | (rw [HF.out]; rfl), by (refine bel_out ?_; (focus (repeat' first | (with_reducible refine bel_refl ?_) | with_reducible assumption | with_reducible refine bel_drew ?_ | with_reducible refine bel_drewN _ ?_ | with_reducible refine bel_alloc _ ?_ | with_reducible refine bel_set ?_ _ ?_ | (with_reducible apply bel_call; with_reducible assumption) | (with_reducible apply bel_owg; with_reducible assumption; (focus omega)) | with_reducible exact Nat.le_refl _ | omega | (simp; done) | (simp; omega))))⟩
      · rw [show decide (ts = 0 ∧ tn = ⟨#[]⟩) = false from decide_eq_false (fun e => hts ⟨e.1, by rw [e.2]; rfl⟩)] at zts
        have gts : (ts == 0 && decide (tn.size = 0)) = false := by rw [Bool.eq_false_iff]; intro e; rw [Bool.and_eq_true] at e; exact hts ⟨by simpa using e.1, of_decide_eq_true e.2⟩
        have HF : Hid (frmK 6 ⟨kd, us, nt, ts, tn, os, on, tx, z, hs⟩ = false) := Lib.hid (by first | (simp [frmK, fU, fN, fT, fO, fK, fH, hus, hnt, hts]; done) | (simp [frmK, fU, fN, fT, fO, fK, fH, hus, hnt, hts]; intros; simp_all))
        clear hus hnt hts
        go_enter Tryd.func31, Tryd.ntmps31
        simp only [List.append_eq, List.cons_append, List.nil_append]
        go_wp2
        go_ret
        exact ⟨by first | (rw [HF.out]; done) | (rw [HF.out]; rfl), by (refine bel_out ?_; (focus (repeat' first | (with_reducible refine bel_refl ?_) | with_reducible assumption | with_reducible refine bel_drew ?_ | with_reducible refine bel_drewN _ ?_ | with_reducible refine bel_alloc _ ?_ | with_reducible refine bel_set ?_ _ ?_ | (with_reducible apply bel_call; with_reducible assumption) | (with_reducible apply bel_owg; with_reducible assumption; (focus omega)) | with_reducible exact Nat.le_refl _ | omega | (simp; done) | (simp; omega))))⟩
    · obtain ⟨ant, bnt, cnt, dnt⟩ := str_ne hnt
      have HF : Hid (frmK 6 ⟨kd, us, nt, ts, tn, os, on, tx, z, hs⟩ = false) := Lib.hid (by first | (simp [frmK, fU, fN, fT, fO, fK, fH, hus, hnt]; done) | (simp [frmK, fU, fN, fT, fO, fK, fH, hus, hnt]; intros; simp_all))
      clear hus hnt
      go_enter Tryd.func31, Tryd.ntmps31
      simp only [List.append_eq, List.cons_append, List.nil_append]
      go_wp2
      go_ret
      exact ⟨by first | (rw [HF.out]; done) | (rw [HF.out]; rfl), by (refine bel_out ?_; (focus (repeat' first | (with_reducible refine bel_refl ?_) | with_reducible assumption | with_reducible refine bel_drew ?_ | with_reducible refine bel_drewN _ ?_ | with_reducible refine bel_alloc _ ?_ | with_reducible refine bel_set ?_ _ ?_ | (with_reducible apply bel_call; with_reducible assumption) | (with_reducible apply bel_owg; with_reducible assumption; (focus omega)) | with_reducible exact Nat.le_refl _ | omega | (simp; done) | (simp; omega))))⟩
  · obtain ⟨aus, bus, cus, dus⟩ := str_ne hus
    have HF : Hid (frmK 6 ⟨kd, us, nt, ts, tn, os, on, tx, z, hs⟩ = false) := Lib.hid (by first | (simp [frmK, fU, fN, fT, fO, fK, fH, hus]; done) | (simp [frmK, fU, fN, fT, fO, fK, fH, hus]; intros; simp_all))
    clear hus
    go_enter Tryd.func31, Tryd.ntmps31
    simp only [List.append_eq, List.cons_append, List.nil_append]
    go_wp2
    go_ret
    exact ⟨by first | (rw [HF.out]; done) | (rw [HF.out]; rfl), by (refine bel_out ?_; (focus (repeat' first | (with_reducible refine bel_refl ?_) | with_reducible assumption | with_reducible refine bel_drew ?_ | with_reducible refine bel_drewN _ ?_ | with_reducible refine bel_alloc _ ?_ | with_reducible refine bel_set ?_ _ ?_ | (with_reducible apply bel_call; with_reducible assumption) | (with_reducible apply bel_owg; with_reducible assumption; (focus omega)) | with_reducible exact Nat.le_refl _ | omega | (simp; done) | (simp; omega))))⟩
set_option maxRecDepth 100000 in
set_option maxHeartbeats 16000000 in
theorem formed_10 (c : Cg) (A : Option Addr) (n cp : Nat) (w : World) (hn : n = c.hs.length) :
    Calls Tryd.prog 31 #[cval c A n cp, usesF 10] w (RFrm 10 c w) := by
  have hgt := title_guard
  have hub : ∀ b : Bool, (some undef = some (Value.bool b)) = False := fun b => by simp [undef]
  have hub2 : ∀ b : Bool, (undef = Value.bool b) = False := fun b => by simp [undef]
  obtain ⟨kd, us, nt, ts, tn, os, on, tx, z, hs⟩ := c
  unfold cval RFrm
  have e : usesF 10 = .agg #[.bool true, .bool false, .bool false, .bool false, .bool false, .bool true, .bool false] := rfl
  rw [e]
  clear e
  have HL := Lib.hid hn
  clear hn
  by_cases hnt : nt.size = 0
  · obtain ⟨ant, bnt, cnt⟩ := str_e hnt
    have zts := run_eq_title ts tn 0 ⟨#[]⟩
    by_cases hts : ts = 0 ∧ tn.size = 0
    · rw [show decide (ts = 0 ∧ tn = ⟨#[]⟩) = true from decide_eq_true ⟨hts.1, ba_nil hts.2⟩] at zts
      have zos := run_eq_title os on 0 ⟨#[]⟩
      by_cases hos : os = 0 ∧ on.size = 0
      · rw [show decide (os = 0 ∧ on = ⟨#[]⟩) = true from decide_eq_true ⟨hos.1, ba_nil hos.2⟩] at zos
        by_cases htx : tx.size = 0
        · obtain ⟨atx, btx, ctx⟩ := str_e htx
          by_cases hh : hs.length = 0
          · have ah : ((n : Int) == 0) = true := by rw [HL.out]; simpa using hh
            have HF : Hid (frmK 10 ⟨kd, us, nt, ts, tn, os, on, tx, z, hs⟩ = true) := Lib.hid (by first | (simp [frmK, fU, fN, fT, fO, fK, fH, hnt, hts, hos, htx, hh]; done) | (simp [frmK, fU, fN, fT, fO, fK, fH, hnt, hts, hos, htx, hh]; intros; simp_all))
            clear hnt hts hos htx hh
            go_enter Tryd.func31, Tryd.ntmps31
            simp only [List.append_eq, List.cons_append, List.nil_append]
            go_wp2
            go_ret
            exact ⟨by first | (rw [HF.out]; done) | (rw [HF.out]; rfl), by (refine bel_out ?_; (focus (repeat' first | (with_reducible refine bel_refl ?_) | with_reducible assumption | with_reducible refine bel_drew ?_ | with_reducible refine bel_drewN _ ?_ | with_reducible refine bel_alloc _ ?_ | with_reducible refine bel_set ?_ _ ?_ | (with_reducible apply bel_call; with_reducible assumption) | (with_reducible apply bel_owg; with_reducible assumption; (focus omega)) | with_reducible exact Nat.le_refl _ | omega | (simp; done) | (simp; omega))))⟩
          · have ah : ((n : Int) == 0) = false := by rw [HL.out]; simpa using hh
            have HF : Hid (frmK 10 ⟨kd, us, nt, ts, tn, os, on, tx, z, hs⟩ = false) := Lib.hid (by first | (simp [frmK, fU, fN, fT, fO, fK, fH, hnt, hts, hos, htx, hh]; done) | (simp [frmK, fU, fN, fT, fO, fK, fH, hnt, hts, hos, htx, hh]; intros; simp_all))
            clear hnt hts hos htx hh
            go_enter Tryd.func31, Tryd.ntmps31
            simp only [List.append_eq, List.cons_append, List.nil_append]
            go_wp2
            go_ret
            exact ⟨by first | (rw [HF.out]; done) | (rw [HF.out]; rfl), by (refine bel_out ?_; (focus (repeat' first | (with_reducible refine bel_refl ?_) | with_reducible assumption | with_reducible refine bel_drew ?_ | with_reducible refine bel_drewN _ ?_ | with_reducible refine bel_alloc _ ?_ | with_reducible refine bel_set ?_ _ ?_ | (with_reducible apply bel_call; with_reducible assumption) | (with_reducible apply bel_owg; with_reducible assumption; (focus omega)) | with_reducible exact Nat.le_refl _ | omega | (simp; done) | (simp; omega))))⟩
        · obtain ⟨atx, btx, ctx, dtx⟩ := str_ne htx
          have HF : Hid (frmK 10 ⟨kd, us, nt, ts, tn, os, on, tx, z, hs⟩ = false) := Lib.hid (by first | (simp [frmK, fU, fN, fT, fO, fK, fH, hnt, hts, hos, htx]; done) | (simp [frmK, fU, fN, fT, fO, fK, fH, hnt, hts, hos, htx]; intros; simp_all))
          clear hnt hts hos htx
          go_enter Tryd.func31, Tryd.ntmps31
          simp only [List.append_eq, List.cons_append, List.nil_append]
          go_wp2
          go_ret
          exact ⟨by first | (rw [HF.out]; done) | (rw [HF.out]; rfl), by (refine bel_out ?_; (focus (repeat' first | (with_reducible refine bel_refl ?_) | with_reducible assumption | with_reducible refine bel_drew ?_ | with_reducible refine bel_drewN _ ?_ | with_reducible refine bel_alloc _ ?_ | with_reducible refine bel_set ?_ _ ?_ | (with_reducible apply bel_call; with_reducible assumption) | (with_reducible apply bel_owg; with_reducible assumption; (focus omega)) | with_reducible exact Nat.le_refl _ | omega | (simp; done) | (simp; omega))))⟩
      · rw [show decide (os = 0 ∧ on = ⟨#[]⟩) = false from decide_eq_false (fun e => hos ⟨e.1, by rw [e.2]; rfl⟩)] at zos
        have gos : (os == 0 && decide (on.size = 0)) = false := by rw [Bool.eq_false_iff]; intro e; rw [Bool.and_eq_true] at e; exact hos ⟨by simpa using e.1, of_decide_eq_true e.2⟩
        have HF : Hid (frmK 10 ⟨kd, us, nt, ts, tn, os, on, tx, z, hs⟩ = false) := Lib.hid (by first | (simp [frmK, fU, fN, fT, fO, fK, fH, hnt, hts, hos]; done) | (simp [frmK, fU, fN, fT, fO, fK, fH, hnt, hts, hos]; intros; simp_all))
        clear hnt hts hos
        go_enter Tryd.func31, Tryd.ntmps31
        simp only [List.append_eq, List.cons_append, List.nil_append]
        go_wp2
        go_ret
        exact ⟨by first | (rw [HF.out]; done) | (rw [HF.out]; rfl), by (refine bel_out ?_; (focus (repeat' first | (with_reducible refine bel_refl ?_) | with_reducible assumption | with_reducible refine bel_drew ?_ | with_reducible refine bel_drewN _ ?_ | with_reducible refine bel_alloc _ ?_ | with_reducible refine bel_set ?_ _ ?_ | (with_reducible apply bel_call; with_reducible assumption) | (with_reducible apply bel_owg; with_reducible assumption; (focus omega)) | with_reducible exact Nat.le_refl _ | omega | (simp; done) | (simp; omega))))⟩
    · rw [show decide (ts = 0 ∧ tn = ⟨#[]⟩) = false from decide_eq_false (fun e => hts ⟨e.1, by rw [e.2]; rfl⟩)] at zts
      have gts : (ts == 0 && decide (tn.size = 0)) = false := by rw [Bool.eq_false_iff]; intro e; rw [Bool.and_eq_true] at e; exact hts ⟨by simpa using e.1, of_decide_eq_true e.2⟩
      have HF : Hid (frmK 10 ⟨kd, us, nt, ts, tn, os, on, tx, z, hs⟩ = false) := Lib.hid (by first | (simp [frmK, fU, fN, fT, fO, fK, fH, hnt, hts]; done) | (simp [frmK, fU, fN, fT, fO, fK, fH, hnt, hts]; intros; simp_all))
      clear hnt hts
      go_enter Tryd.func31, Tryd.ntmps31
      simp only [List.append_eq, List.cons_append, List.nil_append]
      go_wp2
      go_ret
      exact ⟨by first | (rw [HF.out]; done) | (rw [HF.out]; rfl), by (refine bel_out ?_; (focus (repeat' first | (with_reducible refine bel_refl ?_) | with_reducible assumption | with_reducible refine bel_drew ?_ | with_reducible refine bel_drewN _ ?_ | with_reducible refine bel_alloc _ ?_ | with_reducible refine bel_set ?_ _ ?_ | (with_reducible apply bel_call; with_reducible assumption) | (with_reducible apply bel_owg; with_reducible assumption; (focus omega)) | with_reducible exact Nat.le_refl _ | omega | (simp; done) | (simp; omega))))⟩
  · obtain ⟨ant, bnt, cnt, dnt⟩ := str_ne hnt
    have HF : Hid (frmK 10 ⟨kd, us, nt, ts, tn, os, on, tx, z, hs⟩ = false) := Lib.hid (by first | (simp [frmK, fU, fN, fT, fO, fK, fH, hnt]; done) | (simp [frmK, fU, fN, fT, fO, fK, fH, hnt]; intros; simp_all))
    clear hnt
    go_enter Tryd.func31, Tryd.ntmps31
    simp only [List.append_eq, List.cons_append, List.nil_append]
    go_wp2
    go_ret
    exact ⟨by first | (rw [HF.out]; done) | (rw [HF.out]; rfl), by (refine bel_out ?_; (focus (repeat' first | (with_reducible refine bel_refl ?_) | with_reducible assumption | with_reducible refine bel_drew ?_ | with_reducible refine bel_drewN _ ?_ | with_reducible refine bel_alloc _ ?_ | with_reducible refine bel_set ?_ _ ?_ | (with_reducible apply bel_call; with_reducible assumption) | (with_reducible apply bel_owg; with_reducible assumption; (focus omega)) | with_reducible exact Nat.le_refl _ | omega | (simp; done) | (simp; omega))))⟩
end Go.Proofs.YtbeijpajodgpeaaDoor
/- The walk of formed, whole. Printed by gen_formed.py -/
namespace Go.Proofs.YtbeijpajodgpeaaDoor
open Go.RowKit
set_option linter.unusedSimpArgs false
set_option linter.unusedVariables false
theorem formed_any (c : Cg) (A : Option Addr) (n cp : Nat) (w : World) (hn : n = c.hs.length) (hk : 1 ≤ c.kd ∧ c.kd ≤ 10) :
    Calls Tryd.prog 31 #[cval c A n cp, usesF c.kd] w fun e w' => e = .returned (.bool (frm c)) ∧ Below w.heap.size w w' := by
  have hf : frm c = frmK c.kd c := rfl
  rw [hf]
  rcases kinds hk with e | e | e | e | e | e | e | e | e | e <;> rw [e]
  · exact formed_1 c A n cp w hn
  · exact formed_2 c A n cp w hn
  · exact formed_2 c A n cp w hn
  · exact formed_4 c A n cp w hn
  · exact formed_5 c A n cp w hn
  · exact formed_6 c A n cp w hn
  · exact formed_2 c A n cp w hn
  · exact formed_2 c A n cp w hn
  · exact formed_9 c A n cp w hn
  · exact formed_10 c A n cp w hn
end Go.Proofs.YtbeijpajodgpeaaDoor
