/- The walks of slices.Index, slices.Contains, Has and Same at jobs. -/
import Derived.Test.YtobgnncdldfkkaaDoorQB
import Derived.Laws.StructEq
namespace Go.Proofs.YtobgnncdldfkkaaDoor
open Go.RowKit
set_option linter.unusedSimpArgs false
set_option linter.unusedVariables false

theorem toList_iff (a b : ByteArray) : (a.toList = b.toList) = (a = b) := by
  have := str_beq a b
  by_cases h : a = b
  · subst h; simp
  · rw [decide_eq_false h] at this
    simp [h]
    simpa using this
theorem run_eq_job (st : Int) (us : ByteArray) (sp : Int) (nm : ByteArray) (st' : Int) (us' : ByteArray) (sp' : Int) (nm' : ByteArray) (W : World) :
    (binOp .eql 28 (.agg #[.int .i64 st, .string us, .int .i64 sp, .string nm]) (.agg #[.int .i64 st', .string us', .int .i64 sp', .string nm'])).run Tryd.prog W = .ok (.bool (decide ((⟨st, us, sp, nm⟩ : Jb) = ⟨st', us', sp', nm'⟩))) W := by
  have h1 : Tryd.prog.underlying 28 = some (.struct (Tryd.prog.fieldsOf 28)) := by kernel_rfl
  have h2 : Tryd.prog.stoodInHeld 28 = false := by kernel_rfl
  rw [run_eql_struct, run_equalIn_struct W _ _ _ _ h1 h2]
  simp [go_sem]
  simp only [toList_iff]
  by_cases e1 : st = st' <;> by_cases e2 : us = us' <;> by_cases e3 : sp = sp' <;> by_cases e4 : nm = nm' <;> simp [e1, e2, e3, e4]
theorem run_neq_job (st : Int) (us : ByteArray) (sp : Int) (nm : ByteArray) (st' : Int) (us' : ByteArray) (sp' : Int) (nm' : ByteArray) (W : World) :
    (binOp .neq 28 (.agg #[.int .i64 st, .string us, .int .i64 sp, .string nm]) (.agg #[.int .i64 st', .string us', .int .i64 sp', .string nm'])).run Tryd.prog W = .ok (.bool (!decide ((⟨st, us, sp, nm⟩ : Jb) = ⟨st', us', sp', nm'⟩))) W := by
  have h1 : Tryd.prog.underlying 28 = some (.struct (Tryd.prog.fieldsOf 28)) := by kernel_rfl
  have h2 : Tryd.prog.stoodInHeld 28 = false := by kernel_rfl
  rw [run_neq_struct, run_equalIn_struct W _ _ _ _ h1 h2]
  simp [go_sem]
  simp only [toList_iff]
  by_cases e1 : st = st' <;> by_cases e2 : us = us' <;> by_cases e3 : sp = sp' <;> by_cases e4 : nm = nm' <;> simp [e1, e2, e3, e4]
theorem job_guard : Tryd.prog.eqGuardType Tryd.prog.depth 28 = false := by kernel_rfl

set_option maxRecDepth 100000 in
set_option maxHeartbeats 4000000 in
theorem index_job (A : Option Addr) (n c : Nat) (L : List Jb) (j : Jb) (w : World) (hr : RdR RJ 4 w A n c L) :
    Calls Tryd.prog 42 #[.slice A n c, j.val] w fun e w' => e = .returned (.int .i64 (fIdx (fun a => decide (j = a)) L)) ∧ Below w.heap.size w w' := by
  have hmax : n ≤ maxLen := Nat.le_trans hr.cap hr.max
  unfold maxLen at hmax
  have HO := Lib.hid fun (h : 0 < n) => RdJ.opened hr h
  have HNL := Lib.hid hr.len
  have HP : Hid (∀ a, (fun a => decide (j = a)) a = decide (j = a)) := Lib.hid fun a => rfl
  generalize (fun a : Jb => decide (j = a)) = P at *
  clear hr
  obtain ⟨st0, us0, sp0, nm0⟩ := j
  unfold Jb.val
  go_enter Tryd.func42, Tryd.ntmps42
  go_wp2
  go_loopw [8] (fun v wr => ∃ k : Nat, k ≤ n ∧ v = .int .i64 k ∧ Below w.heap.size w wr ∧ w.heap.size < wr.heap.size ∧ wr.heap[w.heap.size]? = some (.cells #[.int .i64 st0, .string us0, .int .i64 sp0, .string nm0] 28 (0, 0)) ∧ Hid (∀ j, j < k → P (L.getD j jb0) = false)) (fun v _ => n - (intOf v).toNat)
  case atStart => exact ⟨0, Nat.zero_le _, rfl, by (refine bel_out ?_; (focus (repeat' first | (with_reducible refine bel_refl ?_) | with_reducible assumption | with_reducible refine bel_drew ?_ | with_reducible refine bel_drewN _ ?_ | with_reducible refine bel_alloc _ ?_ | with_reducible refine bel_set ?_ _ ?_ | (with_reducible apply bel_call; with_reducible assumption) | (with_reducible apply bel_owg; with_reducible assumption; (focus omega)) | with_reducible exact Nat.le_refl _ | omega | (simp; done) | (simp; omega)))), by simp, by (focus (repeat' first | with_reducible assumption | (with_reducible refine heap_drew ?_) | (with_reducible refine heap_drewN ?_) | (with_reducible refine heap_new ?_; focus (first | rfl | omega | (simp; done))) | (with_reducible refine heap_old ?_) | (with_reducible apply heap_near') | ((with_reducible show Array.setIfInBounds _ _ _ = _); rfl) | (with_reducible refine heap_far ?_ ?_; focus (first | omega | (simp; omega) | (simp; done))) | (with_reducible apply heap_grown; with_reducible assumption; (focus (first | omega | (simp; omega)))) | (with_reducible apply heap_call; with_reducible assumption))), Lib.hid fun j h => by omega⟩
  case round =>
    obtain ⟨k, hk, rfl, hbw, hzw, hx2, HB⟩ := hrel
    by_cases hlt : k < n
    · obtain ⟨b, off, rfl, hb, hc⟩ := HO.out (by omega)
      obtain ⟨x1, x2, x3, x4⟩ := hc k hlt
      have c1 := (hbw.cell (p := ⟨b, off + k * 4, none⟩) hb).trans x1
      have c2 := (hbw.cell (p := ⟨b, off + k * 4 + 1, none⟩) hb).trans x2
      have c3 := (hbw.cell (p := ⟨b, off + k * 4 + 2, none⟩) hb).trans x3
      have c4 := (hbw.cell (p := ⟨b, off + k * 4 + 3, none⟩) hb).trans x4
      clear hc x1 x2 x3 x4 HO
      have k0 := Blk.cell hx2 0
      have k1 := Blk.cell hx2 1
      have k2 := Blk.cell hx2 2
      have k3 := Blk.cell hx2 3
      have z0 : (0 : Int) ≤ (k : Int) := by omega
      have z1 : (k : Int) < (n : Int) := by omega
      have HP1 := HP.out (L.getD k jb0)
      have HB1 : Hid (P (L.getD k jb0) = true → fIdx P L = k) := Lib.hid fun h => fIdx_hit (by rw [← HNL.out]; exact hlt) h HB.out
      have HB2 : Hid (P (L.getD k jb0) = false → ∀ j, j < k + 1 → P (L.getD j jb0) = false) := Lib.hid fun h j hj => by
        rcases Nat.lt_or_ge j k with h1 | h1
        · exact HB.out j h1
        · obtain rfl : j = k := by omega
          exact h
      rw [HP1] at HB1 HB2
      clear HP1
      generalize L.getD k jb0 = a at *
      obtain ⟨st, us, sp, nm⟩ := a
      have hq := fun W => run_eq_job st0 us0 sp0 nm0 st us sp nm W
      have hgt := job_guard
      generalize decide ((⟨st0, us0, sp0, nm0⟩ : Jb) = ⟨st, us, sp, nm⟩) = r at *
      cases r with
      | true =>
        have HBt := Lib.hid (HB1.out rfl)
        clear HB1 HB2
        go_wp2_with fail
        go_quiet (fail)
        go_wp2
        go_ret
        exact ⟨by rw [HBt.out]; rfl, below_drewN hbw _⟩
      | false =>
        have HBt := Lib.hid (HB2.out rfl)
        clear HB1 HB2
        go_wp2_with fail
        go_quiet (fail)
        go_wp2
        go_roundw
        case rel => exact ⟨k + 1, by omega, by go_num, below_drewN hbw _, hzw, hx2, HBt⟩
        case measure => simp [intOf]; omega
    · obtain rfl : k = n := by omega
      have HR : Hid (fIdx P L = -1) := Lib.hid (fIdx_miss (by rw [← HNL.out]; exact HB.out))
      go_wp2
      go_ret
      exact ⟨by rw [HR.out]; rfl, hbw⟩
end Go.Proofs.YtobgnncdldfkkaaDoor
