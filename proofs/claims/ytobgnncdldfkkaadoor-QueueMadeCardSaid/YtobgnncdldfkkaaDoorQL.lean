/- The walk of trcref38.Add. -/
import Derived.Test.YtobgnncdldfkkaaDoorQK
namespace Go.Proofs.YtobgnncdldfkkaaDoor
open Go.RowKit
set_option linter.unusedSimpArgs false
set_option linter.unusedVariables false

theorem Reads.ofBlk {w : World} {g sz : Nat} {cs : Array Value} {t : Nat} {fr : Nat × Nat} (hg : w.heap[g]? = some (.cells cs t fr)) (h : cs.size = sz) : Reads w w.heap.size sz (some ⟨g, 0, none⟩) 1 cs.toList := by
  have hlt : g < w.heap.size := by
    rcases Nat.lt_or_ge g w.heap.size with h1 | h1
    · exact h1
    · rw [Array.getElem?_eq_none h1] at hg; cases hg
  refine ⟨by simp [h], fun _ => ⟨_, rfl, hlt, fun j u hu => ?_⟩⟩
  have e : (⟨g, 0, none⟩ : Addr).add j = ⟨g, j, none⟩ := by
    unfold Addr.add
    by_cases h0 : j = 0 <;> simp [h0]
  rw [e, cell_of_row _ _ j _ _ _ hg]
  simpa using hu

set_option maxRecDepth 100000 in
set_option maxHeartbeats 8000000 in
theorem radd_any (A : Option Addr) (n c : Nat) (L : List Jb) (B : Option Addr) (m d : Nat) (M : List Jb) (j : Jb) (w : World) (h : RdR RJ 4 w A n c L) (h2 : RdR RJ 4 w B m d M) (hn : n ≤ 50000) (hm : m ≤ 50000) :
    Calls Tryd.prog 27 #[.agg #[.slice A n c, .slice B m d], j.val] w (RRdQ w (addL L j) M) := by
  obtain ⟨i0, hi0, hz0, hz1, hz2⟩ := info_parts job_info2
  have HO := Lib.hid fun (h0 : 0 < n) => RdJ.opened h h0
  have HNL := Lib.hid h.len
  have HRA := Lib.hid h
  have HRB := Lib.hid h2
  have HR1 : Hid (∀ k, k < L.length → L.getD k jb0 = j → addL L j = L) := Lib.hid fun k hk e => by
    unfold addL
    rw [if_pos]
    rw [← e]
    simp [List.getD, List.getElem?_eq_getElem hk]
  have HR2 : Hid ((∀ k, k < L.length → L.getD k jb0 ≠ j) → addL L j = L ++ [j]) := Lib.hid fun h => by
    unfold addL
    rw [if_neg]
    intro hm
    obtain ⟨k, hk, e⟩ := List.mem_iff_getElem.1 hm
    exact h k hk (by simp [List.getD, List.getElem?_eq_getElem hk, e])
  clear h h2
  obtain ⟨st0, us0, sp0, nm0⟩ := j
  unfold Jb.val
  generalize addL L ⟨st0, us0, sp0, nm0⟩ = rL at *
  go_enter Tryd.func27, Tryd.ntmps27
  go_wp2_with fail
  go_loopw [5] (fun v wr => ∃ k : Nat, k ≤ n ∧ v = .int .i64 k ∧ Below (((w.alloc (.cells #[.slice A n c, .slice B m d] 24)).alloc (.cells #[.int .i64 st0, .string us0, .int .i64 sp0, .string nm0] 28)).alloc (.cells #[.slice none 0 0, .slice none 0 0] 24)).heap.size (((w.alloc (.cells #[.slice A n c, .slice B m d] 24)).alloc (.cells #[.int .i64 st0, .string us0, .int .i64 sp0, .string nm0] 28)).alloc (.cells #[.slice none 0 0, .slice none 0 0] 24)) wr ∧ Hid (∀ j, j < k → L.getD j jb0 ≠ ⟨st0, us0, sp0, nm0⟩)) (fun v _ => n - (intOf v).toNat)
  case atStart => exact ⟨0, Nat.zero_le _, rfl, Below.refl _ _, Lib.hid fun j h => by omega⟩
  case round =>
    obtain ⟨k, hk, rfl, hbw, HB⟩ := hrel
    obtain ⟨kcq, kfq, kzq, khq⟩ := blk_cells hbw (g := w.heap.size) (t := 24) (cs := #[.slice A n c, .slice B m d]) (by (focus (repeat' first | with_reducible assumption | (with_reducible refine heap_drew ?_) | (with_reducible refine heap_drewN ?_) | (with_reducible refine heap_new ?_; focus (first | rfl | omega | (simp; done))) | (with_reducible refine heap_old ?_) | (with_reducible apply heap_near') | ((with_reducible show Array.setIfInBounds _ _ _ = _); rfl) | (with_reducible refine heap_far ?_ ?_; focus (first | omega | (simp; omega) | (simp; done))) | (with_reducible apply heap_grown; with_reducible assumption; (focus (first | omega | (simp; omega)))) | (with_reducible apply heap_call; with_reducible assumption))))
    obtain ⟨kcj, kfj, kzj, khj⟩ := blk_cells hbw (g := w.heap.size + 1) (t := 28) (cs := #[.int .i64 st0, .string us0, .int .i64 sp0, .string nm0]) (by (focus (repeat' first | with_reducible assumption | (with_reducible refine heap_drew ?_) | (with_reducible refine heap_drewN ?_) | (with_reducible refine heap_new ?_; focus (first | rfl | omega | (simp; done))) | (with_reducible refine heap_old ?_) | (with_reducible apply heap_near') | ((with_reducible show Array.setIfInBounds _ _ _ = _); rfl) | (with_reducible refine heap_far ?_ ?_; focus (first | omega | (simp; omega) | (simp; done))) | (with_reducible apply heap_grown; with_reducible assumption; (focus (first | omega | (simp; omega)))) | (with_reducible apply heap_call; with_reducible assumption))))
    obtain ⟨kcr, kfr, kzr, khr⟩ := blk_cells hbw (g := w.heap.size + 2) (t := 24) (cs := #[.slice none 0 0, .slice none 0 0]) (by (focus (repeat' first | with_reducible assumption | (with_reducible refine heap_drew ?_) | (with_reducible refine heap_drewN ?_) | (with_reducible refine heap_new ?_; focus (first | rfl | omega | (simp; done))) | (with_reducible refine heap_old ?_) | (with_reducible apply heap_near') | ((with_reducible show Array.setIfInBounds _ _ _ = _); rfl) | (with_reducible refine heap_far ?_ ?_; focus (first | omega | (simp; omega) | (simp; done))) | (with_reducible apply heap_grown; with_reducible assumption; (focus (first | omega | (simp; omega)))) | (with_reducible apply heap_call; with_reducible assumption))))
    have hb0 : Below w.heap.size w wr := by (refine bel_out ?_; (focus (repeat' first | (with_reducible refine bel_refl ?_) | with_reducible assumption | with_reducible refine bel_drew ?_ | with_reducible refine bel_drewN _ ?_ | with_reducible refine bel_alloc _ ?_ | with_reducible refine bel_set ?_ _ ?_ | (with_reducible apply bel_call; with_reducible assumption) | (with_reducible apply bel_owg; with_reducible assumption; (focus omega)) | with_reducible exact Nat.le_refl _ | omega | (simp; done) | (simp; omega))))
    have hb0z := hb0.size
    by_cases hlt : k < n
    · obtain ⟨b, off, rfl, hb, hc⟩ := HO.out (by omega)
      obtain ⟨x1, x2, x3, x4⟩ := hc k hlt
      have c1 := (hb0.cell (p := ⟨b, off + k * 4, none⟩) hb).trans x1
      have c2 := (hb0.cell (p := ⟨b, off + k * 4 + 1, none⟩) hb).trans x2
      have c3 := (hb0.cell (p := ⟨b, off + k * 4 + 2, none⟩) hb).trans x3
      have c4 := (hb0.cell (p := ⟨b, off + k * 4 + 3, none⟩) hb).trans x4
      clear hc x1 x2 x3 x4 HO
      have z0 : (0 : Int) ≤ (k : Int) := by omega
      have z1 : (k : Int) < (n : Int) := by omega
      have HB1 := Lib.hid (HR1.out k (by rw [← HNL.out]; exact hlt))
      have HB2 : Hid (L.getD k jb0 ≠ ⟨st0, us0, sp0, nm0⟩ → ∀ j, j < k + 1 → L.getD j jb0 ≠ ⟨st0, us0, sp0, nm0⟩) := Lib.hid fun h j hj => by
        rcases Nat.lt_or_ge j k with h1 | h1
        · exact HB.out j h1
        · obtain rfl : j = k := by omega
          exact h
      generalize L.getD k jb0 = a at *
      obtain ⟨st, us, sp, nm⟩ := a
      have hq := fun W => run_eq_job st us sp nm st0 us0 sp0 nm0 W
      have hgt := job_guard
      by_cases he : (⟨st, us, sp, nm⟩ : Jb) = ⟨st0, us0, sp0, nm0⟩
      · have HBt := Lib.hid (HB1.out he)
        rw [decide_eq_true he] at hq
        clear HB1 HB2 he
        go_wp2_with fail
        go_quiet (fail)
        go_wp2
        have hbf : Below w.heap.size w (((wr.drewN nq).setCell ⟨w.heap.size + 1 + 1, 0, none⟩ (.slice (some ⟨b, off, none⟩) n c)).setCell ⟨w.heap.size + 1 + 1, 1, none⟩ (.slice B m d)) := ((below_drewN hb0 _).setCell (by show w.heap.size ≤ w.heap.size + 1 + 1; omega) _).setCell (by show w.heap.size ≤ w.heap.size + 1 + 1; omega) _
        refine bodyPost_ret (v := .agg #[.slice (some ⟨b, off, none⟩) n c, .slice B m d]) ?_ rfl ⟨_, n, c, B, m, d, rfl, by rw [HBt.out]; exact RdJ.below HRA.out hbf, RdJ.below HRB.out hbf, hbf⟩
        simp [results, Tryd.results27, go_sem, kcr]
      · have HBt := Lib.hid (HB2.out he)
        rw [decide_eq_false he] at hq
        clear HB1 HB2 he
        go_wp2_with fail
        go_quiet (fail)
        go_wp2
        go_roundw
        case rel => exact ⟨k + 1, by omega, by go_num, below_drewN hbw _, HBt⟩
        case measure => simp [intOf]; omega
    · obtain rfl : k = n := by omega
      have HR : Hid (rL = L ++ [⟨st0, us0, sp0, nm0⟩]) := Lib.hid (HR2.out (by rw [← HNL.out]; exact HB.out))
      have HRW := Lib.hid (RdJ.vals (RdJ.below HRA.out hb0))
      have hbr : w.heap.size + 3 ≤ wr.heap.size := by omega
      have hlitf := Lib.hid (fun W => RdJ.lit (w := W) (t := 0) ⟨st0, us0, sp0, nm0⟩)
      have HRWb := Lib.hid (RdJ.vals (RdJ.below HRA.out (hb0.alloc hb0z (.cells #[.int .i64 st0, .string us0, .int .i64 sp0, .string nm0] 28))))
      have hbr2 : w.heap.size + 3 ≤ (wr.alloc (.cells #[.int .i64 st0, .string us0, .int .i64 sp0, .string nm0] 28)).heap.size := by rw [size_alloc_]; omega
      have HLT : Hid ((wr.alloc (.cells #[.int .i64 st0, .string us0, .int .i64 sp0, .string nm0] 28)).heap[wr.heap.size]? = some (.cells #[.int .i64 st0, .string us0, .int .i64 sp0, .string nm0] 28 (0, 0))) := Lib.hid (heap_new rfl)
      clear HB HR1 HR2 HO hbw
      go_wp2_with fail
      go_region_law (first
        | ((refine step_append_r _ rfl (.const (.slice none 0 0)) (.tmp 22) 22 rfl 4 48 (w.heap.size + 3) 28 i0 _ RJ.stay (by decide) Tryd.underlying22 hi0 hz0 hz1 hz2 rfl (by omega) none 0 0 [] rfl (OwR.nil _ _ _ _ _) A k c rfl L (jcells L) HRW.out (fits_jcells _ _) HNL.out (jcells_one _) ?_ ?_ ?_ ?_; (focus (unfold maxLen; omega)); (focus omega); (focus (rw [size_drew]; exact hbr)); intro A3 c3 w3 ho3 hg3; rw [Nat.zero_add, List.nil_append] at ho3; (have hb3 := hg3.drew_left.new); (have kh3 := heap_call hb3 khq); (have kh3j := heap_call hb3 khj); (have kh3r := heap_call hb3 khr); (have kc3 := Blk.cell kh3); (have kc3j := Blk.cell kh3j); (have kz3 := Blk.lt kh3); (have kz3j := Blk.lt kh3j); (have kn3 : w.heap.size ≠ w3.heap.size := Nat.ne_of_lt kz3); (have kn3j : w.heap.size + 1 ≠ w3.heap.size := Nat.ne_of_lt kz3j)))
        | ((refine step_append_r _ rfl (.const (.slice none 0 0)) (.tmp 22) 22 rfl 4 48 (w.heap.size + 3) 28 i0 _ RJ.stay (by decide) Tryd.underlying22 hi0 hz0 hz1 hz2 rfl (by omega) none 0 0 [] rfl (OwR.nil _ _ _ _ _) A k c rfl L (jcells L) HRWb.out (fits_jcells _ _) HNL.out (jcells_one _) ?_ ?_ ?_ ?_; (focus (unfold maxLen; omega)); (focus omega); (focus (rw [size_drew]; exact hbr2)); intro A3 c3 w3 ho3 hg3; rw [Nat.zero_add, List.nil_append] at ho3; (have hb3 := hg3.drew_left.new); (have kh3 := heap_call hb3 (heap_old khq)); (have kh3j := heap_call hb3 (heap_old khj)); (have kh3r := heap_call hb3 (heap_old khr)); (have kc3 := Blk.cell kh3); (have kc3j := Blk.cell kh3j); (have kz3 := Blk.lt kh3); (have kz3j := Blk.lt kh3j); (have kn3 : w.heap.size ≠ w3.heap.size := Nat.ne_of_lt kz3); (have kn3j : w.heap.size + 1 ≠ w3.heap.size := Nat.ne_of_lt kz3j); (have klit := heap_call hb3 HLT.out)))
        | ((refine step_append_r _ rfl (.tmp 23) (.tmp 25) 22 rfl 4 48 (w.heap.size + 3) 28 i0 _ RJ.stay (by decide) Tryd.underlying22 hi0 hz0 hz1 hz2 rfl (by omega) A3 k c3 L (by simp [Act.eval, Act.put]) (ho3.call RJ.stay ((Below.refl _ _).alloc (Nat.le_refl _) _)) (some ⟨w3.heap.size, 0, none⟩) 1 1 (by simp [Act.eval, Act.put]) [⟨st0, us0, sp0, nm0⟩] [.int .i64 st0, .string us0, .int .i64 sp0, .string nm0] (Reads.lit (cs := #[.int .i64 st0, .string us0, .int .i64 sp0, .string nm0]) rfl) (hlitf.out _) rfl ?_ ?_ ?_ ?_ ?_; (focus (simp [Value.oneCell'])); (focus (unfold maxLen; omega)); (focus omega); (focus (have := hb3.size; simp; omega)); intro A4 c4 w4 ho4 hg4; (have kh4 : w4.heap[w.heap.size]? = _ := (hg4.b.block _ (by omega)).trans (heap_old kh3)); (have kh4r : w4.heap[w.heap.size + 2]? = _ := (hg4.b.block _ (by omega)).trans (heap_old kh3r)); (have hb4 : Below w.heap.size w w4 := (((hb0.trans (hb3.mono hb0z))).alloc (Nat.le_trans hb0z hb3.size) _).trans (hg4.b.mono (by omega))); (have kc4 := Blk.cell kh4); (have kc4r := Blk.cell kh4r); (have kf4r := Blk.frozen kh4r)))
        | (go_must (refine step_append_r _ rfl (.tmp 23) (.tmp 25) 22 rfl 4 48 (w.heap.size + 3) 28 i0 _ RJ.stay (by decide) Tryd.underlying22 hi0 hz0 hz1 hz2 rfl (by omega) A3 k c3 L (by simp [Act.eval, Act.put]) ho3 (some ⟨wr.heap.size, 0, none⟩) 1 1 (by simp [Act.eval, Act.put]) [⟨st0, us0, sp0, nm0⟩] [.int .i64 st0, .string us0, .int .i64 sp0, .string nm0] (Reads.ofBlk (cs := #[.int .i64 st0, .string us0, .int .i64 sp0, .string nm0]) klit rfl) (hlitf.out _) rfl ?_ ?_ ?_ ?_ ?_; (focus (simp [Value.oneCell'])); (focus (unfold maxLen; omega)); (focus omega); (focus (have := hb3.size; simp at this; omega)); intro A4 c4 w4 ho4 hg4; (have kh4 : w4.heap[w.heap.size]? = _ := (hg4.b.block _ (by omega)).trans kh3); (have kh4r : w4.heap[w.heap.size + 2]? = _ := (hg4.b.block _ (by omega)).trans kh3r); (have hb4 : Below w.heap.size w w4 := ((hb0.alloc hb0z _).trans (hb3.mono (by rw [size_alloc_]; omega))).trans (hg4.b.mono (by omega))); (have kc4 := Blk.cell kh4); (have kc4r := Blk.cell kh4r); (have kf4r := Blk.frozen kh4r))))
      all_goals
        go_wp2
        have hbf : Below w.heap.size w ((w4.setCell ⟨w.heap.size + 1 + 1, 0, none⟩ (.slice A4 (k + 1) c4)).setCell ⟨w.heap.size + 1 + 1, 1, none⟩ (.slice B m d)) := (hb4.setCell (by show w.heap.size ≤ w.heap.size + 1 + 1; omega) _).setCell (by show w.heap.size ≤ w.heap.size + 1 + 1; omega) _
        refine bodyPost_ret (v := .agg #[.slice A4 (k + 1) c4, .slice B m d]) ?_ rfl ⟨A4, k + 1, c4, B, m, d, rfl, by rw [HR.out]; (refine OwR.rd (base := w.heap.size + 3) (e := 28) ?_; (repeat (first | (with_reducible refine OwR.drewX ?_) | (with_reducible refine OwR.setX ?_ (?hlt : _ < _) _; case hlt => (dsimp only; omega)))); exact ho4), RdJ.below HRB.out hbf, hbf⟩
        simp [results, Tryd.results27, go_sem, kc4r]
end Go.Proofs.YtobgnncdldfkkaaDoor
