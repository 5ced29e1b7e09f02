/- known: the example of the chapter. -/
import Derived.Test.YtakbpdlfgjfbeaaDoorD14
import Derived.Test.YtakbpdlfgjfbeaaDoorD15
namespace Go.Proofs.YtakbpdlfgjfbeaaDoor
open Go.RowKit
set_option linter.unusedSimpArgs false
set_option linter.unusedVariables false

def ka : ByteArray := ⟨#[97, 10]⟩
def kb : ByteArray := ⟨#[98, 10]⟩
def kc : ByteArray := ⟨#[99, 10]⟩
theorem k_ab : LN ⟨#[97, 10, 98, 10]⟩ = [ka, kb] := by rfl
theorem k_ac : LN ⟨#[97, 10, 99, 10]⟩ = [ka, kc] := by rfl
theorem k_nb : (LN ⟨#[97, 10, 10, 98]⟩).length = 3 := by rfl
theorem kb_ne : ¬ kb = kc := by decide
theorem k_edits : EI (edits [ka, kb] [ka, kc]) = [(1, [ka]), (2, [kb]), (3, [kc])] := by
  simp [edits, run, scr, lcs, stp, fin, put1, EI, kb_ne]
theorem k_cost : costL [(1, [ka]), (2, [kb]), (3, [kc])] = 2 := by simp [costL, costE]

theorem RdS.lit1 {w : World} {g t : Nat} {a : ByteArray} {fr : Nat × Nat} (h : w.heap[g]? = some (.cells #[.string a] t fr)) : RdR RS 1 w (some ⟨g, 0, none⟩) 1 1 [a] := by
  refine ⟨rfl, Nat.le_refl _, by unfold maxLen; omega, [.string a], ⟨rfl, fun _ => ⟨_, rfl, lt_of_heap h, fun j u hu => ?_⟩⟩, Fits.one rfl rfl⟩
  have e : (⟨g, 0, none⟩ : Addr).add j = ⟨g, j, none⟩ := by
    unfold Addr.add
    by_cases h0 : j = 0 <;> simp [h0]
  rw [e, cell_of_row _ _ j _ _ _ h]
  simpa using hu
theorem RdE.lit3 {w : World} {g t : Nat} {fr : Nat × Nat} {a b c : ByteArray} {A B C : Option Addr} {k1 k2 k3 : Int} (h : w.heap[g]? = some (.cells #[.int .i64 k1, .slice A 1 1, .int .i64 k2, .slice B 1 1, .int .i64 k3, .slice C 1 1] t fr)) (ha : RdR RS 1 w A 1 1 [a]) (hb : RdR RS 1 w B 1 1 [b]) (hc : RdR RS 1 w C 1 1 [c]) :
    RdR RE 2 w (some ⟨g, 0, none⟩) 3 3 [(k1, [a]), (k2, [b]), (k3, [c])] := by
  refine ⟨rfl, Nat.le_refl _, by unfold maxLen; omega, [.int .i64 k1, .slice A 1 1, .int .i64 k2, .slice B 1 1, .int .i64 k3, .slice C 1 1], ⟨rfl, fun _ => ⟨_, rfl, lt_of_heap h, fun j u hu => ?_⟩⟩, fun k x hk => ?_⟩
  · have e : (⟨g, 0, none⟩ : Addr).add j = ⟨g, j, none⟩ := by
      unfold Addr.add
      by_cases h0 : j = 0 <;> simp [h0]
    rw [e, cell_of_row _ _ j _ _ _ h]
    simpa using hu
  · match k, hk with
    | 0, hk => injection hk with hk; subst hk; exact ⟨A, 1, 1, rfl, ha⟩
    | 1, hk => injection hk with hk; subst hk; exact ⟨B, 1, 1, rfl, hb⟩
    | 2, hk => injection hk with hk; subst hk; exact ⟨C, 1, 1, rfl, hc⟩

set_option maxRecDepth 100000 in
set_option maxHeartbeats 4000000 in
theorem known_any (m : Int) (w : World) (hm : w.cell? ⟨0, 0, none⟩ = some (.int .i64 m)) :
    Calls Tryd.prog 11 #[] w fun e w' => e = .returned (.bool true) ∧ Below w.heap.size w w' := by
  have h00 : 0 < w.heap.size := World.block_lt_of_cell? w _ hm
  have HD : Hid (Calls Tryd.prog 14 #[.string ⟨#[97, 10, 98, 10]⟩, .string ⟨#[97, 10, 99, 10]⟩] w (RRead w [(1, [ka]), (2, [kb]), (3, [kc])])) := Lib.hid (by
    have := diff_any ⟨#[97, 10, 98, 10]⟩ ⟨#[97, 10, 99, 10]⟩ m w hm (by decide) (by decide)
    rwa [k_ab, k_ac, k_edits] at this)
  have HLN : Hid (∀ W : World, W.cell? ⟨0, 0, none⟩ = some (.int .i64 m) → Calls Tryd.prog 16 #[.string ⟨#[97, 10, 10, 98]⟩] W fun e w' => ∃ A c, e = .returned (.slice A 3 c) ∧ Below W.heap.size W w') := Lib.hid fun W hW => (dlines_n ⟨#[97, 10, 10, 98]⟩ 3 _ m rfl k_nb (by decide) W hW).mono fun e w' ⟨A, c, h1, h2, h3, h4⟩ => ⟨A, c, h1, h4⟩
  have HM := Lib.hid hm
  clear hm
  go_enter Tryd.func11, Tryd.ntmps11
  go_wp2_with fail
  go_at_call 14
  refine HD.out.mono ?_
  rintro e w1 ⟨A1, n1, c1, rfl, hE1, hb1⟩
  have hn1 : n1 ≤ 3 := by rw [hE1.len]; exact Nat.le_refl _
  have HE1 := Lib.hid hE1
  clear HD hE1
  go_wp2_with fail
  go_at_call 13
  go_must (refine (same_true A1 n1 c1 (some ⟨w1.heap.size + 3, 0, none⟩) 3 3 [(1, [ka]), (2, [kb]), (3, [kc])] _ (RdE.below HE1.out ?_) (RdE.lit3 (A := some ⟨w1.heap.size, 0, none⟩) (B := some ⟨w1.heap.size + 1, 0, none⟩) (C := some ⟨w1.heap.size + 2, 0, none⟩) (t := 32) (fr := (0, 0)) ?_ (RdS.lit1 (t := 9) (fr := (0, 0)) ?_) (RdS.lit1 (t := 9) (fr := (0, 0)) ?_) (RdS.lit1 (t := 9) (fr := (0, 0)) ?_)) (by omega)).mono ?_)
  · (refine bel_out ?_; (focus (repeat' first | (with_reducible refine bel_refl ?_) | with_reducible assumption | with_reducible refine bel_drew ?_ | with_reducible refine bel_drewN _ ?_ | with_reducible refine bel_alloc _ ?_ | with_reducible refine bel_set ?_ _ ?_ | (with_reducible apply bel_call; with_reducible assumption) | (with_reducible apply bel_owg; with_reducible assumption; (focus omega)) | with_reducible exact Nat.le_refl _ | omega | (simp; done) | (simp; omega))))
  · (focus (repeat' first | with_reducible assumption | (with_reducible refine heap_drew ?_) | (with_reducible refine heap_drewN ?_) | (with_reducible refine heap_new ?_; focus (first | rfl | omega | (simp; done))) | (with_reducible refine heap_old ?_) | (with_reducible apply heap_near') | ((with_reducible show Array.setIfInBounds _ _ _ = _); rfl) | (with_reducible refine heap_far ?_ ?_; focus (first | omega | (simp; omega) | (simp; done))) | (with_reducible apply heap_grown; with_reducible assumption; (focus (first | omega | (simp; omega)))) | (with_reducible apply heap_call; with_reducible assumption)))
  · unfold ka; (focus (repeat' first | with_reducible assumption | (with_reducible refine heap_drew ?_) | (with_reducible refine heap_drewN ?_) | (with_reducible refine heap_new ?_; focus (first | rfl | omega | (simp; done))) | (with_reducible refine heap_old ?_) | (with_reducible apply heap_near') | ((with_reducible show Array.setIfInBounds _ _ _ = _); rfl) | (with_reducible refine heap_far ?_ ?_; focus (first | omega | (simp; omega) | (simp; done))) | (with_reducible apply heap_grown; with_reducible assumption; (focus (first | omega | (simp; omega)))) | (with_reducible apply heap_call; with_reducible assumption)))
  · unfold kb; (focus (repeat' first | with_reducible assumption | (with_reducible refine heap_drew ?_) | (with_reducible refine heap_drewN ?_) | (with_reducible refine heap_new ?_; focus (first | rfl | omega | (simp; done))) | (with_reducible refine heap_old ?_) | (with_reducible apply heap_near') | ((with_reducible show Array.setIfInBounds _ _ _ = _); rfl) | (with_reducible refine heap_far ?_ ?_; focus (first | omega | (simp; omega) | (simp; done))) | (with_reducible apply heap_grown; with_reducible assumption; (focus (first | omega | (simp; omega)))) | (with_reducible apply heap_call; with_reducible assumption)))
  · unfold kc; (focus (repeat' first | with_reducible assumption | (with_reducible refine heap_drew ?_) | (with_reducible refine heap_drewN ?_) | (with_reducible refine heap_new ?_; focus (first | rfl | omega | (simp; done))) | (with_reducible refine heap_old ?_) | (with_reducible apply heap_near') | ((with_reducible show Array.setIfInBounds _ _ _ = _); rfl) | (with_reducible refine heap_far ?_ ?_; focus (first | omega | (simp; omega) | (simp; done))) | (with_reducible apply heap_grown; with_reducible assumption; (focus (first | omega | (simp; omega)))) | (with_reducible apply heap_call; with_reducible assumption)))
  rintro e w2 ⟨rfl, hb2⟩
  have hb12 : Below w1.heap.size w1 w2 := by
    refine Below.trans ?_ (hb2.mono ?_)
    · (refine bel_out ?_; (focus (repeat' first | (with_reducible refine bel_refl ?_) | with_reducible assumption | with_reducible refine bel_drew ?_ | with_reducible refine bel_drewN _ ?_ | with_reducible refine bel_alloc _ ?_ | with_reducible refine bel_set ?_ _ ?_ | (with_reducible apply bel_call; with_reducible assumption) | (with_reducible apply bel_owg; with_reducible assumption; (focus omega)) | with_reducible exact Nat.le_refl _ | omega | (simp; done) | (simp; omega))))
    · simp only [size_alloc_]; omega
  clear hb2
  have hb3 := below_call hb1 hb12
  have HE3 := Lib.hid (RdE.below HE1.out hb12)
  go_wp2_with fail
  go_at_call 17
  refine (cost_any A1 n1 c1 _ w2 HE3.out (by omega) (by intro e he; simp at he; rcases he with rfl | rfl | rfl <;> simp)).mono ?_
  rintro e w4 ⟨rfl, hb4⟩
  rw [k_cost]
  have hb5 := below_call hb3 hb4
  have c00 := (hb5.cell (p := ⟨0, 0, none⟩) h00).trans HM.out
  clear hb3 hb4 hb1 hb12
  go_wp2_with fail
  go_at_call 16
  refine (HLN.out w4 c00).mono ?_
  rintro e w6 ⟨A6, c6, rfl, hb6⟩
  go_wp2_with fail
  go_ret
  exact ⟨rfl, below_call hb5 hb6⟩
end Go.Proofs.YtakbpdlfgjfbeaaDoor
