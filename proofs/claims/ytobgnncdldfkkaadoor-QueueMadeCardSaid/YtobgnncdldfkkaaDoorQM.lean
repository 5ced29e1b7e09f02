/- The walk of trcref38.Done. -/
import Derived.Test.YtobgnncdldfkkaaDoorQL
namespace Go.Proofs.YtobgnncdldfkkaaDoor
open Go.RowKit
set_option linter.unusedSimpArgs false
set_option linter.unusedVariables false

set_option maxRecDepth 100000 in
set_option maxHeartbeats 8000000 in
theorem rdone_any (A : Option Addr) (n c : Nat) (L : List Jb) (B : Option Addr) (m d : Nat) (M : List Jb) (j : Jb) (w : World) (h : RdR RJ 4 w A n c L) (h2 : RdR RJ 4 w B m d M) (hn : n ≤ 50000) (hm : m ≤ 50000) :
    Calls Tryd.prog 29 #[.agg #[.slice A n c, .slice B m d], j.val] w (RRdQ w L (doneL M j)) := by
  obtain ⟨i0, hi0, hz0, hz1, hz2⟩ := info_parts job_info2
  have HO := Lib.hid fun (h0 : 0 < m) => RdJ.opened h2 h0
  have HNL := Lib.hid h2.len
  have HRA := Lib.hid h
  have HRB := Lib.hid h2
  have HCU : Hid (∀ (I : Int) (i : Nat) (W : World), Below w.heap.size w W → I = (i : Int) → i < m → Calls Tryd.prog 43 #[.slice B m d, .int .i64 I] W (RNewJ W (m - 1) (M.eraseIdx i))) := Lib.hid fun I i W hW hI hi => cut_job B m d M I i W (RdJ.below h2 hW) hI hi hm
  have HR1 : Hid (∀ k, k < M.length → M.getD k jb0 = j → (∀ l, l < k → M.getD l jb0 ≠ j) → doneL M j = M.eraseIdx k) := Lib.hid fun k hk e hb => by
    have : jIdx j M = k := by
      unfold jIdx
      exact fIdx_hit hk (decide_eq_true e.symm) (fun l hl => decide_eq_false (fun e => hb l hl e.symm))
    unfold doneL
    rw [this, if_pos (by omega)]
    rfl
  have HR2 : Hid ((∀ k, k < M.length → M.getD k jb0 ≠ j) → doneL M j = M) := Lib.hid fun hb => by
    have : jIdx j M = -1 := by
      unfold jIdx
      exact fIdx_miss (fun l hl => decide_eq_false (fun e => hb l hl e.symm))
    unfold doneL
    rw [this, if_neg (by omega)]
  clear h h2
  obtain ⟨st0, us0, sp0, nm0⟩ := j
  unfold Jb.val
  generalize doneL M ⟨st0, us0, sp0, nm0⟩ = rM at *
  go_enter Tryd.func29, Tryd.ntmps29
  go_wp2_with fail
  go_loopw [5] (fun v wr => ∃ k : Nat, k ≤ m ∧ v = .int .i64 k ∧ Below (((w.alloc (.cells #[.slice A n c, .slice B m d] 24)).alloc (.cells #[.int .i64 st0, .string us0, .int .i64 sp0, .string nm0] 28)).alloc (.cells #[.slice none 0 0, .slice none 0 0] 24)).heap.size (((w.alloc (.cells #[.slice A n c, .slice B m d] 24)).alloc (.cells #[.int .i64 st0, .string us0, .int .i64 sp0, .string nm0] 28)).alloc (.cells #[.slice none 0 0, .slice none 0 0] 24)) wr ∧ Hid (∀ j, j < k → M.getD j jb0 ≠ ⟨st0, us0, sp0, nm0⟩)) (fun v _ => m - (intOf v).toNat)
  case atStart => exact ⟨0, Nat.zero_le _, rfl, Below.refl _ _, Lib.hid fun j h => by omega⟩
  case round =>
    obtain ⟨k, hk, rfl, hbw, HB⟩ := hrel
    obtain ⟨kcq, kfq, kzq, khq⟩ := blk_cells hbw (g := w.heap.size) (t := 24) (cs := #[.slice A n c, .slice B m d]) (by (focus (repeat' first | with_reducible assumption | (with_reducible refine heap_drew ?_) | (with_reducible refine heap_drewN ?_) | (with_reducible refine heap_new ?_; focus (first | rfl | omega | (simp; done))) | (with_reducible refine heap_old ?_) | (with_reducible apply heap_near') | ((with_reducible show Array.setIfInBounds _ _ _ = _); rfl) | (with_reducible refine heap_far ?_ ?_; focus (first | omega | (simp; omega) | (simp; done))) | (with_reducible apply heap_grown; with_reducible assumption; (focus (first | omega | (simp; omega)))) | (with_reducible apply heap_call; with_reducible assumption))))
    obtain ⟨kcj, kfj, kzj, khj⟩ := blk_cells hbw (g := w.heap.size + 1) (t := 28) (cs := #[.int .i64 st0, .string us0, .int .i64 sp0, .string nm0]) (by (focus (repeat' first | with_reducible assumption | (with_reducible refine heap_drew ?_) | (with_reducible refine heap_drewN ?_) | (with_reducible refine heap_new ?_; focus (first | rfl | omega | (simp; done))) | (with_reducible refine heap_old ?_) | (with_reducible apply heap_near') | ((with_reducible show Array.setIfInBounds _ _ _ = _); rfl) | (with_reducible refine heap_far ?_ ?_; focus (first | omega | (simp; omega) | (simp; done))) | (with_reducible apply heap_grown; with_reducible assumption; (focus (first | omega | (simp; omega)))) | (with_reducible apply heap_call; with_reducible assumption))))
    obtain ⟨kcr, kfr, kzr, khr⟩ := blk_cells hbw (g := w.heap.size + 2) (t := 24) (cs := #[.slice none 0 0, .slice none 0 0]) (by (focus (repeat' first | with_reducible assumption | (with_reducible refine heap_drew ?_) | (with_reducible refine heap_drewN ?_) | (with_reducible refine heap_new ?_; focus (first | rfl | omega | (simp; done))) | (with_reducible refine heap_old ?_) | (with_reducible apply heap_near') | ((with_reducible show Array.setIfInBounds _ _ _ = _); rfl) | (with_reducible refine heap_far ?_ ?_; focus (first | omega | (simp; omega) | (simp; done))) | (with_reducible apply heap_grown; with_reducible assumption; (focus (first | omega | (simp; omega)))) | (with_reducible apply heap_call; with_reducible assumption))))
    have hb0 : Below w.heap.size w wr := by (refine bel_out ?_; (focus (repeat' first | (with_reducible refine bel_refl ?_) | with_reducible assumption | with_reducible refine bel_drew ?_ | with_reducible refine bel_drewN _ ?_ | with_reducible refine bel_alloc _ ?_ | with_reducible refine bel_set ?_ _ ?_ | (with_reducible apply bel_call; with_reducible assumption) | (with_reducible apply bel_owg; with_reducible assumption; (focus omega)) | with_reducible exact Nat.le_refl _ | omega | (simp; done) | (simp; omega))))
    have hb0z := hb0.size
    by_cases hlt : k < m
    · obtain ⟨b, off, rfl, hb, hc⟩ := HO.out (by omega)
      obtain ⟨x1, x2, x3, x4⟩ := hc k hlt
      have c1 := (hb0.cell (p := ⟨b, off + k * 4, none⟩) hb).trans x1
      have c2 := (hb0.cell (p := ⟨b, off + k * 4 + 1, none⟩) hb).trans x2
      have c3 := (hb0.cell (p := ⟨b, off + k * 4 + 2, none⟩) hb).trans x3
      have c4 := (hb0.cell (p := ⟨b, off + k * 4 + 3, none⟩) hb).trans x4
      clear hc x1 x2 x3 x4 HO
      have z0 : (0 : Int) ≤ (k : Int) := by omega
      have z1 : (k : Int) < (m : Int) := by omega
      have HB1 := Lib.hid (fun e => HR1.out k (by rw [← HNL.out]; exact hlt) e HB.out)
      have HB2 : Hid (M.getD k jb0 ≠ ⟨st0, us0, sp0, nm0⟩ → ∀ j, j < k + 1 → M.getD j jb0 ≠ ⟨st0, us0, sp0, nm0⟩) := Lib.hid fun h j hj => by
        rcases Nat.lt_or_ge j k with h1 | h1
        · exact HB.out j h1
        · obtain rfl : j = k := by omega
          exact h
      generalize M.getD k jb0 = a at *
      obtain ⟨st, us, sp, nm⟩ := a
      have hq := fun W => run_eq_job st us sp nm st0 us0 sp0 nm0 W
      have hgt := job_guard
      by_cases he : (⟨st, us, sp, nm⟩ : Jb) = ⟨st0, us0, sp0, nm0⟩
      · have HBt := Lib.hid (HB1.out he)
        rw [decide_eq_true he] at hq
        clear HB1 HB2 he HR1 HR2 HB
        go_wp2_with fail
        go_quiet (fail)
        go_wp2_with fail
        have HK : Hid (∀ W : World, Bel (w.alloc (.cells #[.slice A n c, .slice (some ⟨b, off, none⟩) m d] 24)).heap.size (w.alloc (.cells #[.slice A n c, .slice (some ⟨b, off, none⟩) m d] 24)) W → W.cell? ⟨w.heap.size, 0, none⟩ = some (.slice A n c) ∧ W.cell? ⟨w.heap.size, 1, none⟩ = some (.slice (some ⟨b, off, none⟩) m d)) := Lib.hid fun W hW => by
          have hh : W.heap[w.heap.size]? = some (.cells #[.slice A n c, .slice (some ⟨b, off, none⟩) m d] 24 (0, 0)) := heap_call hW.2 (heap_new rfl)
          exact ⟨Blk.cell hh 0, Blk.cell hh 1⟩
        go_region_held3 (fun W => W.cell? ⟨w.heap.size, 0, none⟩ = some (.slice A n c) ∧ W.cell? ⟨w.heap.size, 1, none⟩ = some (.slice (some ⟨b, off, none⟩) m d))
          ((refine HK.out _ ?_; (focus (repeat' first | (with_reducible refine bel_refl ?_) | with_reducible assumption | with_reducible refine bel_drew ?_ | with_reducible refine bel_drewN _ ?_ | with_reducible refine bel_alloc _ ?_ | with_reducible refine bel_set ?_ _ ?_ | (with_reducible apply bel_call; with_reducible assumption) | (with_reducible apply bel_owg; with_reducible assumption; (focus omega)) | with_reducible exact Nat.le_refl _ | omega | (simp; done) | (simp; omega))); done))
          ((go_at_call 43; ((with_reducible refine (HCU.out _ k _ ?_ rfl hlt).mono ?_); (focus (refine bel_out ?_; (focus (repeat' first | (with_reducible refine bel_refl ?_) | with_reducible assumption | with_reducible refine bel_drew ?_ | with_reducible refine bel_drewN _ ?_ | with_reducible refine bel_alloc _ ?_ | with_reducible refine bel_set ?_ _ ?_ | (with_reducible apply bel_call; with_reducible assumption) | (with_reducible apply bel_owg; with_reducible assumption; (focus omega)) | with_reducible exact Nat.le_refl _ | omega | (simp; done) | (simp; omega))))); rintro e w3 ⟨A3, c3, rfl, ho3, hb3⟩; obtain ⟨kc3, kf3, kz3, kh3⟩ := blk_cells hb3 (g := w.heap.size + 2) (t := 24) (cs := #[.slice none 0 0, .slice none 0 0]) (by (focus (repeat' first | with_reducible assumption | (with_reducible refine heap_drew ?_) | (with_reducible refine heap_drewN ?_) | (with_reducible refine heap_new ?_; focus (first | rfl | omega | (simp; done))) | (with_reducible refine heap_old ?_) | (with_reducible apply heap_near') | ((with_reducible show Array.setIfInBounds _ _ _ = _); rfl) | (with_reducible refine heap_far ?_ ?_; focus (first | omega | (simp; omega) | (simp; done))) | (with_reducible apply heap_grown; with_reducible assumption; (focus (first | omega | (simp; omega)))) | (with_reducible apply heap_call; with_reducible assumption)))))))
        all_goals
          have hb03 : Below w.heap.size w w3 := by (refine bel_out ?_; (focus (repeat' first | (with_reducible refine bel_refl ?_) | with_reducible assumption | with_reducible refine bel_drew ?_ | with_reducible refine bel_drewN _ ?_ | with_reducible refine bel_alloc _ ?_ | with_reducible refine bel_set ?_ _ ?_ | (with_reducible apply bel_call; with_reducible assumption) | (with_reducible apply bel_owg; with_reducible assumption; (focus omega)) | with_reducible exact Nat.le_refl _ | omega | (simp; done) | (simp; omega))))
          have hbz : w.heap.size + 2 < wr.heap.size := kzr
          have ho3' : OwR RJ 4 w3 (w.heap.size + 3) 28 A3 (m - 1) c3 (M.eraseIdx k) := ho3.mono (by simp; omega)
          go_wp2
          have hbf : Below w.heap.size w ((w3.setCell ⟨w.heap.size + 1 + 1, 0, none⟩ (.slice A n c)).setCell ⟨w.heap.size + 1 + 1, 1, none⟩ (.slice A3 (m - 1) c3)) := (hb03.setCell (by show w.heap.size ≤ w.heap.size + 1 + 1; omega) _).setCell (by show w.heap.size ≤ w.heap.size + 1 + 1; omega) _
          refine bodyPost_ret (v := .agg #[.slice A n c, .slice A3 (m - 1) c3]) ?_ rfl ⟨A, n, c, A3, m - 1, c3, rfl, RdJ.below HRA.out hbf, by rw [HBt.out]; (refine OwR.rd (base := w.heap.size + 3) (e := 28) ?_; (repeat (first | (with_reducible refine OwR.drewX ?_) | (with_reducible refine OwR.setX ?_ (?hlt : _ < _) _; case hlt => (dsimp only; omega)))); exact ho3'), hbf⟩
          simp [results, Tryd.results29, go_sem, kc3]
      · have HBt := Lib.hid (HB2.out he)
        rw [decide_eq_false he] at hq
        clear HB1 HB2 he
        go_wp2_with fail
        go_quiet (fail)
        go_wp2
        go_roundw
        case rel => exact ⟨k + 1, by omega, by go_num, below_drewN hbw _, HBt⟩
        case measure => simp [intOf]; omega
    · obtain rfl : k = m := by omega
      have HR : Hid (rM = M) := Lib.hid (HR2.out (by rw [← HNL.out]; exact HB.out))
      go_wp2_with fail
      have hbf : Below w.heap.size w ((wr.setCell ⟨w.heap.size + 1 + 1, 0, none⟩ (.slice A n c)).setCell ⟨w.heap.size + 1 + 1, 1, none⟩ (.slice B k d)) := (hb0.setCell (by show w.heap.size ≤ w.heap.size + 1 + 1; omega) _).setCell (by show w.heap.size ≤ w.heap.size + 1 + 1; omega) _
      refine bodyPost_ret (v := .agg #[.slice A n c, .slice B k d]) ?_ rfl ⟨_, n, c, B, k, d, rfl, RdJ.below HRA.out hbf, by rw [HR.out]; exact RdJ.below HRB.out hbf, hbf⟩
      simp [results, Tryd.results29, go_sem, kcr]
end Go.Proofs.YtobgnncdldfkkaaDoor
