/- The walks of slices.Contains, Has, Same at jobs, SameQueue. -/
import Derived.Test.YtobgnncdldfkkaaDoorQC
namespace Go.Proofs.YtobgnncdldfkkaaDoor
open Go.RowKit
set_option linter.unusedSimpArgs false
set_option linter.unusedVariables false

theorem fIdx_mem (j : Jb) (L : List Jb) : (fIdx (fun a => decide (j = a)) L < 0 ∧ decide (j ∈ L) = false) ∨ (0 ≤ fIdx (fun a => decide (j = a)) L ∧ decide (j ∈ L) = true) := by
  unfold fIdx
  cases e : L.findIdx? (fun a => decide (j = a)) with
  | none =>
    left
    refine ⟨by decide, ?_⟩
    rw [decide_eq_false_iff_not]
    intro hx
    have := List.findIdx?_eq_none_iff.1 e j hx
    simp at this
  | some i =>
    right
    refine ⟨by simp, ?_⟩
    obtain ⟨h1, h2, _⟩ := List.findIdx?_eq_some_iff_getElem.1 e
    rw [decide_eq_true_iff]
    have : j = L[i] := by simpa using h2
    rw [this]
    exact List.getElem_mem h1
theorem contains_job (A : Option Addr) (n c : Nat) (L : List Jb) (j : Jb) (w : World) (hr : RdR RJ 4 w A n c L) :
    Calls Tryd.prog 41 #[.slice A n c, j.val] w fun e w' => e = .returned (.bool (decide (j ∈ L))) ∧ Below w.heap.size w w' := by
  have HI := Lib.hid fun (W : World) (hb : Below w.heap.size w W) => index_job A n c L j W (hr.below RJ.stay hb)
  have hx := fIdx_mem j L
  generalize fIdx (fun a => decide (j = a)) L = i at *
  generalize decide (j ∈ L) = r at *
  obtain ⟨st, us, sp, nm⟩ := j
  unfold Jb.val at *
  simp only [] at HI
  rcases hx with ⟨h1, rfl⟩ | ⟨h1, rfl⟩
  · have hd : decide (0 ≤ i) = false := by simpa using h1
    go_enter Tryd.func41, Tryd.ntmps41
    go_wp2_with (go_at_call 42; refine (HI.out _ ?_).mono ?_; (focus (refine bel_out ?_; (focus (repeat' first | (with_reducible refine bel_refl ?_) | with_reducible assumption | with_reducible refine bel_drew ?_ | with_reducible refine bel_drewN _ ?_ | with_reducible refine bel_alloc _ ?_ | with_reducible refine bel_set ?_ _ ?_ | (with_reducible apply bel_call; with_reducible assumption) | (with_reducible apply bel_owg; with_reducible assumption; (focus omega)) | with_reducible exact Nat.le_refl _ | omega | (simp; done) | (simp; omega))))); rintro e w1 ⟨rfl, hb1⟩)
    go_ret
    exact ⟨by rfl, by (refine bel_out ?_; (focus (repeat' first | (with_reducible refine bel_refl ?_) | with_reducible assumption | with_reducible refine bel_drew ?_ | with_reducible refine bel_drewN _ ?_ | with_reducible refine bel_alloc _ ?_ | with_reducible refine bel_set ?_ _ ?_ | (with_reducible apply bel_call; with_reducible assumption) | (with_reducible apply bel_owg; with_reducible assumption; (focus omega)) | with_reducible exact Nat.le_refl _ | omega | (simp; done) | (simp; omega))))⟩
  · have hd : decide (0 ≤ i) = true := by simpa using h1
    go_enter Tryd.func41, Tryd.ntmps41
    go_wp2_with (go_at_call 42; refine (HI.out _ ?_).mono ?_; (focus (refine bel_out ?_; (focus (repeat' first | (with_reducible refine bel_refl ?_) | with_reducible assumption | with_reducible refine bel_drew ?_ | with_reducible refine bel_drewN _ ?_ | with_reducible refine bel_alloc _ ?_ | with_reducible refine bel_set ?_ _ ?_ | (with_reducible apply bel_call; with_reducible assumption) | (with_reducible apply bel_owg; with_reducible assumption; (focus omega)) | with_reducible exact Nat.le_refl _ | omega | (simp; done) | (simp; omega))))); rintro e w1 ⟨rfl, hb1⟩)
    go_ret
    exact ⟨by rfl, by (refine bel_out ?_; (focus (repeat' first | (with_reducible refine bel_refl ?_) | with_reducible assumption | with_reducible refine bel_drew ?_ | with_reducible refine bel_drewN _ ?_ | with_reducible refine bel_alloc _ ?_ | with_reducible refine bel_set ?_ _ ?_ | (with_reducible apply bel_call; with_reducible assumption) | (with_reducible apply bel_owg; with_reducible assumption; (focus omega)) | with_reducible exact Nat.le_refl _ | omega | (simp; done) | (simp; omega))))⟩

set_option maxRecDepth 100000 in
set_option maxHeartbeats 4000000 in
theorem has_job (A : Option Addr) (n c : Nat) (L : List Jb) (j : Jb) (w : World) (hr : RdR RJ 4 w A n c L) :
    Calls Tryd.prog 22 #[.slice A n c, j.val] w fun e w' => e = .returned (.bool (decide (j ∈ L))) ∧ Below w.heap.size w w' := by
  have hmax : n ≤ maxLen := Nat.le_trans hr.cap hr.max
  unfold maxLen at hmax
  have HO := Lib.hid fun (h : 0 < n) => RdJ.opened hr h
  have HNL := Lib.hid hr.len
  clear hr
  obtain ⟨j0, hj0⟩ : ∃ j0, j0 = j := ⟨_, rfl⟩
  have HR1 : Hid (∀ k, k < L.length → L.getD k jb0 = j → decide (j ∈ L) = true) := Lib.hid fun k hk h => by
    rw [decide_eq_true_iff, ← h]
    simp [List.getD, List.getElem?_eq_getElem hk]
  have HR2 : Hid ((∀ k, k < L.length → L.getD k jb0 ≠ j) → decide (j ∈ L) = false) := Lib.hid fun h => by
    rw [decide_eq_false_iff_not]
    intro hm
    obtain ⟨k, hk, e⟩ := List.mem_iff_getElem.1 hm
    exact h k hk (by simp [List.getD, List.getElem?_eq_getElem hk, e])
  generalize decide (j ∈ L) = res at *
  obtain ⟨st0, us0, sp0, nm0⟩ := j
  unfold Jb.val
  clear hj0
  go_enter Tryd.func22, Tryd.ntmps22
  go_wp2
  go_loopw [5] (fun v wr => ∃ k : Nat, k ≤ n ∧ v = .int .i64 k ∧ Below w.heap.size w wr ∧ w.heap.size < wr.heap.size ∧ wr.heap[w.heap.size]? = some (.cells #[.int .i64 st0, .string us0, .int .i64 sp0, .string nm0] 28 (0, 0)) ∧ Hid (∀ j, j < k → L.getD j jb0 ≠ ⟨st0, us0, sp0, nm0⟩)) (fun v _ => n - (intOf v).toNat)
  case atStart => exact ⟨0, Nat.zero_le _, rfl, by (refine bel_out ?_; (focus (repeat' first | (with_reducible refine bel_refl ?_) | with_reducible assumption | with_reducible refine bel_drew ?_ | with_reducible refine bel_drewN _ ?_ | with_reducible refine bel_alloc _ ?_ | with_reducible refine bel_set ?_ _ ?_ | (with_reducible apply bel_call; with_reducible assumption) | (with_reducible apply bel_owg; with_reducible assumption; (focus omega)) | with_reducible exact Nat.le_refl _ | omega | (simp; done) | (simp; omega)))), by simp, by (focus (repeat' first | with_reducible assumption | (with_reducible refine heap_drew ?_) | (with_reducible refine heap_drewN ?_) | (with_reducible refine heap_new ?_; focus (first | rfl | omega | (simp; done))) | (with_reducible refine heap_old ?_) | (with_reducible apply heap_near') | ((with_reducible show Array.setIfInBounds _ _ _ = _); rfl) | (with_reducible refine heap_far ?_ ?_; focus (first | omega | (simp; omega) | (simp; done))) | (with_reducible apply heap_grown; with_reducible assumption; (focus (first | omega | (simp; omega)))) | (with_reducible apply heap_call; with_reducible assumption))), Lib.hid fun j h => by omega⟩
  case round =>
    obtain ⟨k, hk, rfl, hbw, hzw, hx2, HB⟩ := hrel
    by_cases hlt : k < n
    · obtain ⟨b, off, rfl, hb, hc⟩ := HO.out (by omega)
      obtain ⟨x1, x2, x3, x4⟩ := hc k hlt
      have c1 := (hbw.cell (p := ⟨b, off + k * 4, none⟩) hb).trans x1
      have c2 := (hbw.cell (p := ⟨b, off + k * 4 + 1, none⟩) hb).trans x2
      have c3 := (hbw.cell (p := ⟨b, off + k * 4 + 2, none⟩) hb).trans x3
      have c4 := (hbw.cell (p := ⟨b, off + k * 4 + 3, none⟩) hb).trans x4
      clear hc x1 x2 x3 x4 HO
      have k0 := Blk.cell hx2 0
      have k1 := Blk.cell hx2 1
      have k2 := Blk.cell hx2 2
      have k3 := Blk.cell hx2 3
      have z0 : (0 : Int) ≤ (k : Int) := by omega
      have z1 : (k : Int) < (n : Int) := by omega
      have HB1 := Lib.hid (HR1.out k (by rw [← HNL.out]; exact hlt))
      have HB2 : Hid (L.getD k jb0 ≠ ⟨st0, us0, sp0, nm0⟩ → ∀ j, j < k + 1 → L.getD j jb0 ≠ ⟨st0, us0, sp0, nm0⟩) := Lib.hid fun h j hj => by
        rcases Nat.lt_or_ge j k with h1 | h1
        · exact HB.out j h1
        · obtain rfl : j = k := by omega
          exact h
      generalize L.getD k jb0 = a at *
      obtain ⟨st, us, sp, nm⟩ := a
      have hq := fun W => run_eq_job st us sp nm st0 us0 sp0 nm0 W
      have hgt := job_guard
      by_cases he : (⟨st, us, sp, nm⟩ : Jb) = ⟨st0, us0, sp0, nm0⟩
      · have HBt := Lib.hid (HB1.out he)
        rw [decide_eq_true he] at hq
        clear HB1 HB2 he
        go_wp2_with fail
        go_quiet (fail)
        go_wp2
        go_ret
        exact ⟨by rw [HBt.out]; rfl, below_drewN hbw _⟩
      · have HBt := Lib.hid (HB2.out he)
        rw [decide_eq_false he] at hq
        clear HB1 HB2 he
        go_wp2_with fail
        go_quiet (fail)
        go_wp2
        go_roundw
        case rel => exact ⟨k + 1, by omega, by go_num, below_drewN hbw _, hzw, hx2, HBt⟩
        case measure => simp [intOf]; omega
    · obtain rfl : k = n := by omega
      have HR : Hid (res = false) := Lib.hid (HR2.out (by rw [← HNL.out]; exact HB.out))
      go_wp2
      go_ret
      exact ⟨by rw [HR.out]; rfl, hbw⟩

set_option maxRecDepth 100000 in
set_option maxHeartbeats 4000000 in
theorem same_job (A : Option Addr) (n c : Nat) (L : List Jb) (A2 : Option Addr) (n2 c2 : Nat) (L2 : List Jb) (w : World) (hr : RdR RJ 4 w A n c L) (hr2 : RdR RJ 4 w A2 n2 c2 L2) :
    Calls Tryd.prog 24 #[.slice A n c, .slice A2 n2 c2] w fun e w' => e = .returned (.bool (decide (L = L2))) ∧ Below w.heap.size w w' := by
  have hmax : n ≤ maxLen := Nat.le_trans hr.cap hr.max
  unfold maxLen at hmax
  have HNL := Lib.hid hr.len
  have HNL2 := Lib.hid hr2.len
  by_cases hz : n = n2
  · subst hz
    have HO := Lib.hid fun (h : 0 < n) => RdJ.opened hr h
    have HO2 := Lib.hid fun (h : 0 < n) => RdJ.opened hr2 h
    clear hr hr2
    have HR1 : Hid (∀ k, k < n → L.getD k jb0 ≠ L2.getD k jb0 → decide (L = L2) = false) := Lib.hid fun k hk h => by
      rw [decide_eq_false_iff_not]
      intro e
      exact h (by rw [e])
    have HR2 : Hid ((∀ k, k < n → L.getD k jb0 = L2.getD k jb0) → decide (L = L2) = true) := Lib.hid fun h => by
      rw [decide_eq_true_iff]
      apply List.ext_getElem (by rw [← HNL.out, ← HNL2.out])
      intro i h1 h2
      have := h i (by rw [HNL.out]; exact h1)
      simpa [List.getD, List.getElem?_eq_getElem h1, List.getElem?_eq_getElem h2] using this
    generalize decide (L = L2) = res at *
    go_enter Tryd.func24, Tryd.ntmps24
    go_wp2
    go_loopw [5] (fun v wr => ∃ k : Nat, k ≤ n ∧ v = .int .i64 k ∧ Below w.heap.size w wr ∧ Hid (∀ j, j < k → L.getD j jb0 = L2.getD j jb0)) (fun v _ => n - (intOf v).toNat)
    case atStart => exact ⟨0, Nat.zero_le _, rfl, Below.refl _ _, Lib.hid fun j h => by omega⟩
    case round =>
      obtain ⟨k, hk, rfl, hbw, HB⟩ := hrel
      by_cases hlt : k < n
      · obtain ⟨b, off, rfl, hb, hc⟩ := HO.out (by omega)
        obtain ⟨b2, off2, rfl, hb2, hc2⟩ := HO2.out (by omega)
        obtain ⟨x1, x2, x3, x4⟩ := hc k hlt
        obtain ⟨y1, y2, y3, y4⟩ := hc2 k hlt
        have c1 := (hbw.cell (p := ⟨b, off + k * 4, none⟩) hb).trans x1
        have c2 := (hbw.cell (p := ⟨b, off + k * 4 + 1, none⟩) hb).trans x2
        have c3 := (hbw.cell (p := ⟨b, off + k * 4 + 2, none⟩) hb).trans x3
        have c4 := (hbw.cell (p := ⟨b, off + k * 4 + 3, none⟩) hb).trans x4
        have d1 := (hbw.cell (p := ⟨b2, off2 + k * 4, none⟩) hb2).trans y1
        have d2 := (hbw.cell (p := ⟨b2, off2 + k * 4 + 1, none⟩) hb2).trans y2
        have d3 := (hbw.cell (p := ⟨b2, off2 + k * 4 + 2, none⟩) hb2).trans y3
        have d4 := (hbw.cell (p := ⟨b2, off2 + k * 4 + 3, none⟩) hb2).trans y4
        clear hc x1 x2 x3 x4 HO hc2 y1 y2 y3 y4 HO2
        have z0 : (0 : Int) ≤ (k : Int) := by omega
        have z1 : (k : Int) < (n : Int) := by omega
        have HB1 := Lib.hid (HR1.out k hlt)
        have HB2 : Hid (L.getD k jb0 = L2.getD k jb0 → ∀ j, j < k + 1 → L.getD j jb0 = L2.getD j jb0) := Lib.hid fun h j hj => by
          rcases Nat.lt_or_ge j k with h1 | h1
          · exact HB.out j h1
          · obtain rfl : j = k := by omega
            exact h
        generalize L.getD k jb0 = a at *
        generalize L2.getD k jb0 = a2 at *
        obtain ⟨st, us, sp, nm⟩ := a
        obtain ⟨st0, us0, sp0, nm0⟩ := a2
        have hq := fun W => run_neq_job st us sp nm st0 us0 sp0 nm0 W
        have hgt := job_guard
        by_cases he : (⟨st, us, sp, nm⟩ : Jb) = ⟨st0, us0, sp0, nm0⟩
        · have HBt := Lib.hid (HB2.out he)
          rw [decide_eq_true he] at hq
          clear HB1 HB2 he
          go_wp2_with fail
          go_quiet (fail)
          go_wp2
          go_roundw
          case rel => exact ⟨k + 1, by omega, by go_num, below_drewN hbw _, HBt⟩
          case measure => simp [intOf]; omega
        · have HBt := Lib.hid (HB1.out he)
          rw [decide_eq_false he] at hq
          clear HB1 HB2 he
          go_wp2_with fail
          go_quiet (fail)
          go_wp2
          go_ret
          exact ⟨by rw [HBt.out]; rfl, below_drewN hbw _⟩
      · obtain rfl : k = n := by omega
        have HR : Hid (res = true) := Lib.hid (HR2.out HB.out)
        go_wp2
        go_ret
        exact ⟨by rw [HR.out]; rfl, hbw⟩
  · have HR : Hid (decide (L = L2) = false) := Lib.hid (decide_eq_false fun e => hz (by rw [HNL.out, HNL2.out, e]))
    have hq : ((n : Int) == (n2 : Int)) = false := by simp; omega
    have hq2 : ((n : Int) != (n2 : Int)) = true := by simp; omega
    go_enter Tryd.func24, Tryd.ntmps24
    go_wp2
    go_ret
    exact ⟨by rw [HR.out]; rfl, Below.refl _ _⟩
end Go.Proofs.YtobgnncdldfkkaaDoor
