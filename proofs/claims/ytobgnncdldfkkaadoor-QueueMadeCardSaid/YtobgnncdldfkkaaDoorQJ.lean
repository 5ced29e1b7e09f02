/- The walk of Back. -/
import Derived.Test.YtobgnncdldfkkaaDoorQH
namespace Go.Proofs.YtobgnncdldfkkaaDoor
open Go.RowKit
set_option linter.unusedSimpArgs false
set_option linter.unusedVariables false

theorem RdJ.kept {w w' : World} {A : Option Addr} {n c : Nat} {L : List Jb} (h : RdR RJ 4 w A n c L) (hs : w.heap.size ≤ w'.heap.size) (hk : ∀ b off, A = some ⟨b, off, none⟩ → 0 < n → w'.heap[b]? = w.heap[b]?) : RdR RJ 4 w' A n c L := by
  refine RdJ.of_vals h.len h.cap h.max ?_
  have hv := RdJ.vals h
  refine ⟨hv.1, fun h0 => ?_⟩
  obtain ⟨b, off, e, hb, _⟩ := RdJ.opened h h0
  obtain ⟨ad, e1, hb1, hc⟩ := hv.2 h0
  refine ⟨ad, e1, Nat.lt_of_lt_of_le hb1 hs, fun j u hu => ?_⟩
  have e2 : ad = ⟨b, off, none⟩ := Option.some.inj (e1.symm.trans e)
  subst e2
  refine (World.cell?_of_block (w := w) ?_).trans (hc j u hu)
  rw [block_of_add]
  exact hk b off e h0
theorem RdJ.setQ {w : World} {A A1 A2 : Option Addr} {n c n1 c1 n2 c2 g t : Nat} {fr : Nat × Nat} {L : List Jb} (h : RdR RJ 4 w A n c L) (hh : w.heap[g]? = some (.cells #[.slice A1 n1 c1, .slice A2 n2 c2] t fr)) (i : Nat) (u : Value) : RdR RJ 4 (w.setCell ⟨g, i, none⟩ u) A n c L := by
  refine RdJ.kept h (by rw [size_set]; exact Nat.le_refl _) fun b off e h0 => heap_set_far _ _ _ _ _ (fun eg => ?_)
  obtain ⟨b', off', e', hb, hc⟩ := RdJ.opened h h0
  rw [e] at e'
  injection e' with e'
  injection e' with e1 e2
  subst e1 e2 eg
  obtain ⟨h1, _⟩ := hc 0 h0
  rw [cell_of_row _ _ _ _ _ _ hh] at h1
  rcases off with _ | _ | off <;> simp at h1

set_option maxRecDepth 100000 in
set_option maxHeartbeats 8000000 in
theorem back_any (A : Option Addr) (n c : Nat) (L : List Jb) (B : Option Addr) (m d : Nat) (M : List Jb) (j : Jb) (w : World) (h : RdR RJ 4 w A n c L) (h2 : RdR RJ 4 w B m d M) (hn : n ≤ 50000) (hm : m ≤ 50000) :
    Calls Tryd.prog 21 #[.agg #[.slice A n c, .slice B m d], j.val] w (RRdQ w (addL L j) (doneL M j)) := by
  have HCD : Hid (∀ W, Below w.heap.size w W → Calls Tryd.prog 20 #[.agg #[.slice A n c, .slice B m d], j.val] W (RRdQ W L (doneL M j))) := Lib.hid fun W hW => done_any A n c L B m d M j W (RdJ.below h hW) (RdJ.below h2 hW) hn hm
  have hlL : L.length ≤ 50000 := by rw [← h.len]; exact hn
  have hlM : M.length ≤ 50000 := by rw [← h2.len]; exact hm
  have hlD := doneL_length M j
  have HCA : Hid (∀ A n c B m d W, RdR RJ 4 W A n c L → RdR RJ 4 W B m d (doneL M j) → Calls Tryd.prog 19 #[.agg #[.slice A n c, .slice B m d], j.val] W (RRdQ W (addL L j) (doneL M j))) := Lib.hid fun A n c B m d W h1 h2 => add_any A n c L B m d (doneL M j) j W h1 h2 (by rw [h1.len]; exact hlL) (by rw [h2.len]; omega)
  obtain ⟨st, us, sp, nm⟩ := j
  unfold Jb.val at *
  simp only [] at HCD HCA
  generalize doneL M ⟨st, us, sp, nm⟩ = rM at *
  generalize addL L ⟨st, us, sp, nm⟩ = rL at *
  have HK : Hid (∀ W : World, Bel ((w.alloc (.cells #[.slice A n c, .slice B m d] 24)).alloc (.cells #[.int .i64 st, .string us, .int .i64 sp, .string nm] 28)).heap.size ((w.alloc (.cells #[.slice A n c, .slice B m d] 24)).alloc (.cells #[.int .i64 st, .string us, .int .i64 sp, .string nm] 28)) W → W.cell? ⟨w.heap.size, 0, none⟩ = some (.slice A n c) ∧ W.cell? ⟨w.heap.size, 1, none⟩ = some (.slice B m d) ∧ W.cell? ⟨w.heap.size + 1, 0, none⟩ = some (.int .i64 st) ∧ W.cell? ⟨w.heap.size + 1, 1, none⟩ = some (.string us) ∧ W.cell? ⟨w.heap.size + 1, 2, none⟩ = some (.int .i64 sp) ∧ W.cell? ⟨w.heap.size + 1, 3, none⟩ = some (.string nm)) := Lib.hid fun W hW => by
    have hh : W.heap[w.heap.size]? = some (.cells #[.slice A n c, .slice B m d] 24 (0, 0)) := heap_call hW.2 (heap_old (heap_new rfl))
    have hh2 : W.heap[w.heap.size + 1]? = some (.cells #[.int .i64 st, .string us, .int .i64 sp, .string nm] 28 (0, 0)) := heap_call hW.2 (heap_new (by simp))
    exact ⟨Blk.cell hh 0, Blk.cell hh 1, Blk.cell hh2 0, Blk.cell hh2 1, Blk.cell hh2 2, Blk.cell hh2 3⟩
  clear h h2
  go_enter Tryd.func21, Tryd.ntmps21
  go_wp2_with fail
  go_region_held3 (fun W => W.cell? ⟨w.heap.size, 0, none⟩ = some (.slice A n c) ∧ W.cell? ⟨w.heap.size, 1, none⟩ = some (.slice B m d) ∧ W.cell? ⟨w.heap.size + 1, 0, none⟩ = some (.int .i64 st) ∧ W.cell? ⟨w.heap.size + 1, 1, none⟩ = some (.string us) ∧ W.cell? ⟨w.heap.size + 1, 2, none⟩ = some (.int .i64 sp) ∧ W.cell? ⟨w.heap.size + 1, 3, none⟩ = some (.string nm))
    ((refine HK.out _ ?_; (focus (repeat' first | (with_reducible refine bel_refl ?_) | with_reducible assumption | with_reducible refine bel_drew ?_ | with_reducible refine bel_drewN _ ?_ | with_reducible refine bel_alloc _ ?_ | with_reducible refine bel_set ?_ _ ?_ | (with_reducible apply bel_call; with_reducible assumption) | (with_reducible apply bel_owg; with_reducible assumption; (focus omega)) | with_reducible exact Nat.le_refl _ | omega | (simp; done) | (simp; omega))); done))
    (first
      | (go_at_call 20; ((with_reducible refine (HCD.out _ ?_).mono ?_); (focus (refine bel_out ?_; (focus (repeat' first | (with_reducible refine bel_refl ?_) | with_reducible assumption | with_reducible refine bel_drew ?_ | with_reducible refine bel_drewN _ ?_ | with_reducible refine bel_alloc _ ?_ | with_reducible refine bel_set ?_ _ ?_ | (with_reducible apply bel_call; with_reducible assumption) | (with_reducible apply bel_owg; with_reducible assumption; (focus omega)) | with_reducible exact Nat.le_refl _ | omega | (simp; done) | (simp; omega))))); rintro e w1 ⟨A1, n1, c1, B1, m1, d1, rfl, ho1, hp1, hb1⟩))
      | (go_at_call 19; ((with_reducible refine (HCA.out _ _ _ _ _ _ _ ho1 hp1).mono ?_); rintro e w2 ⟨A2, n2, c2, B2, m2, d2, rfl, ho2, hp2, hb2⟩; obtain ⟨kc2, kf2, kz2, kh2⟩ := blk_cells hb2 (g := w.heap.size + 2) (t := 24) (cs := #[.slice none 0 0, .slice none 0 0]) (by (focus (repeat' first | with_reducible assumption | (with_reducible refine heap_drew ?_) | (with_reducible refine heap_drewN ?_) | (with_reducible refine heap_new ?_; focus (first | rfl | omega | (simp; done))) | (with_reducible refine heap_old ?_) | (with_reducible apply heap_near') | ((with_reducible show Array.setIfInBounds _ _ _ = _); rfl) | (with_reducible refine heap_far ?_ ?_; focus (first | omega | (simp; omega) | (simp; done))) | (with_reducible apply heap_grown; with_reducible assumption; (focus (first | omega | (simp; omega)))) | (with_reducible apply heap_call; with_reducible assumption)))))))
  all_goals
    have hb02 : Below w.heap.size w w2 := by (refine bel_out ?_; (focus (repeat' first | (with_reducible refine bel_refl ?_) | with_reducible assumption | with_reducible refine bel_drew ?_ | with_reducible refine bel_drewN _ ?_ | with_reducible refine bel_alloc _ ?_ | with_reducible refine bel_set ?_ _ ?_ | (with_reducible apply bel_call; with_reducible assumption) | (with_reducible apply bel_owg; with_reducible assumption; (focus omega)) | with_reducible exact Nat.le_refl _ | omega | (simp; done) | (simp; omega))))
    go_wp2
    refine bodyPost_ret (v := .agg #[.slice A2 n2 c2, .slice B2 m2 d2]) ?_ rfl ⟨A2, n2, c2, B2, m2, d2, rfl, RdJ.setQ (RdJ.setQ ho2 kh2 _ _) (heap_set_near _ _ _ _ _ _ kh2) _ _, RdJ.setQ (RdJ.setQ hp2 kh2 _ _) (heap_set_near _ _ _ _ _ _ kh2) _ _, by (refine bel_out ?_; (focus (repeat' first | (with_reducible refine bel_refl ?_) | with_reducible assumption | with_reducible refine bel_drew ?_ | with_reducible refine bel_drewN _ ?_ | with_reducible refine bel_alloc _ ?_ | with_reducible refine bel_set ?_ _ ?_ | (with_reducible apply bel_call; with_reducible assumption) | (with_reducible apply bel_owg; with_reducible assumption; (focus omega)) | with_reducible exact Nat.le_refl _ | omega | (simp; done) | (simp; omega))))⟩
    simp [results, Tryd.results21, go_sem, kc2]
end Go.Proofs.YtobgnncdldfkkaaDoor
