/- The walks of Done, Take, Back. -/
import Derived.Test.YtobgnncdldfkkaaDoorQG
namespace Go.Proofs.YtobgnncdldfkkaaDoor
open Go.RowKit
set_option linter.unusedSimpArgs false
set_option linter.unusedVariables false

theorem OwJ.block {w : World} {base e n c : Nat} {A : Option Addr} {L : List Jb} (h : OwR RJ 4 w base e A n c L) (hn : 0 < n) : ∃ g, A = some ⟨g, 0, none⟩ ∧ base ≤ g ∧ g < w.heap.size := by
  rcases (OwJ.vals h).2 with ⟨e1, e2⟩ | ⟨g, cap, cur, e1, e2, e3, _⟩
  · injection e1 with _ e3; omega
  · injection e1 with e4 _ _
    exact ⟨g, e4, e2, Blk.lt e3⟩
theorem OwJ.grown {w w' : World} {base e n c g : Nat} {A : Option Addr} {L : List Jb} (h : OwR RJ 4 w base e A n c L) (hg : w.grownBy w' (some g)) (hne : A.map (·.block) ≠ some g) : OwR RJ 4 w' base e A n c L :=
  OwJ.kept h fun k hk => hg.block k (OwJ.lt h k hk).2 (fun e1 => hne (by rw [hk, e1]))
theorem blk_grown {w w' : World} {g k : Nat} {x : Obj} (h : w.heap[k]? = some x) (hg : w.grownBy w' (some g)) (hne : k ≠ g) : w'.heap[k]? = some x := by
  refine (hg.block k ?_ (fun e => hne (by injection e))).trans h
  rcases Nat.lt_or_ge k w.heap.size with h1 | h1
  · exact h1
  · rw [Array.getElem?_eq_none h1] at h; cases h
theorem below_grown {B g : Nat} {a w w' : World} (h : Below B a w) (hB : B ≤ w.heap.size) (hg : w.grownBy w' (some g)) (hb : B ≤ g) : Below B a w' :=
  h.grown hg hB (fun k hk => by injection hk with hk; omega)

set_option maxRecDepth 100000 in
set_option maxHeartbeats 8000000 in
theorem done_any (A : Option Addr) (n c : Nat) (L : List Jb) (B : Option Addr) (m d : Nat) (M : List Jb) (j : Jb) (w : World) (h : RdR RJ 4 w A n c L) (h2 : RdR RJ 4 w B m d M) (hn : n ≤ 50000) (hm : m ≤ 50000) :
    Calls Tryd.prog 20 #[.agg #[.slice A n c, .slice B m d], j.val] w (RRdQ w L (doneL M j)) := by
  have HOW : Hid (∀ W, Below w.heap.size w W → Calls Tryd.prog 37 #[.agg #[.slice A n c, .slice B m d]] W (RNewQ W L M)) := Lib.hid fun W hW => own_any A n c L B m d M W (RdJ.below h hW) (RdJ.below h2 hW) (by omega) (by omega)
  have hlL := Lib.hid h.len
  have hlM := Lib.hid h2.len
  have HCO : Hid (∀ A n c W, RdR RJ 4 W A n c M → Calls Tryd.prog 42 #[.slice A n c, j.val] W fun e w' => e = .returned (.int .i64 (jIdx j M)) ∧ Below W.heap.size W w') := Lib.hid fun A n c W hr => index_job A n c M j W hr
  have hx := jIdx_range j M
  have HD : Hid (doneL M j = if 0 ≤ jIdx j M then M.eraseIdx (jIdx j M).toNat else M) := Lib.hid rfl
  clear h h2
  generalize jIdx j M = r at *
  obtain ⟨st, us, sp, nm⟩ := j
  unfold Jb.val at *
  simp only [] at HCO
  go_enter Tryd.func20, Tryd.ntmps20
  go_wp2_with (go_at_call 37; refine (HOW.out _ ?_).mono ?_; (focus (refine bel_out ?_; (focus (repeat' first | (with_reducible refine bel_refl ?_) | with_reducible assumption | with_reducible refine bel_drew ?_ | with_reducible refine bel_drewN _ ?_ | with_reducible refine bel_alloc _ ?_ | with_reducible refine bel_set ?_ _ ?_ | (with_reducible apply bel_call; with_reducible assumption) | (with_reducible apply bel_owg; with_reducible assumption; (focus omega)) | with_reducible exact Nat.le_refl _ | omega | (simp; done) | (simp; omega))))); rintro e w1 ⟨A1, n1, c1, B1, m1, d1, rfl, ho1, hp1, hne1, hb1⟩; obtain ⟨kc1, kf1, kz1, kh1⟩ := blk_cells hb1 (g := w.heap.size) (t := 24) (cs := #[.slice A n c, .slice B m d]) (by (focus (repeat' first | with_reducible assumption | (with_reducible refine heap_drew ?_) | (with_reducible refine heap_drewN ?_) | (with_reducible refine heap_new ?_; focus (first | rfl | omega | (simp; done))) | (with_reducible refine heap_old ?_) | (with_reducible apply heap_near') | ((with_reducible show Array.setIfInBounds _ _ _ = _); rfl) | (with_reducible refine heap_far ?_ ?_; focus (first | omega | (simp; omega) | (simp; done))) | (with_reducible apply heap_grown; with_reducible assumption; (focus (first | omega | (simp; omega)))) | (with_reducible apply heap_call; with_reducible assumption)))); obtain ⟨kc1j, kf1j, kz1j, kh1j⟩ := blk_cells hb1 (g := w.heap.size + 1) (t := 28) (cs := #[.int .i64 st, .string us, .int .i64 sp, .string nm]) (by (focus (repeat' first | with_reducible assumption | (with_reducible refine heap_drew ?_) | (with_reducible refine heap_drewN ?_) | (with_reducible refine heap_new ?_; focus (first | rfl | omega | (simp; done))) | (with_reducible refine heap_old ?_) | (with_reducible apply heap_near') | ((with_reducible show Array.setIfInBounds _ _ _ = _); rfl) | (with_reducible refine heap_far ?_ ?_; focus (first | omega | (simp; omega) | (simp; done))) | (with_reducible apply heap_grown; with_reducible assumption; (focus (first | omega | (simp; omega)))) | (with_reducible apply heap_call; with_reducible assumption)))); obtain ⟨kc1r, kf1r, kz1r, kh1r⟩ := blk_cells hb1 (g := w.heap.size + 2) (t := 24) (cs := #[.slice none 0 0, .slice none 0 0]) (by (focus (repeat' first | with_reducible assumption | (with_reducible refine heap_drew ?_) | (with_reducible refine heap_drewN ?_) | (with_reducible refine heap_new ?_; focus (first | rfl | omega | (simp; done))) | (with_reducible refine heap_old ?_) | (with_reducible apply heap_near') | ((with_reducible show Array.setIfInBounds _ _ _ = _); rfl) | (with_reducible refine heap_far ?_ ?_; focus (first | omega | (simp; omega) | (simp; done))) | (with_reducible apply heap_grown; with_reducible assumption; (focus (first | omega | (simp; omega)))) | (with_reducible apply heap_call; with_reducible assumption)))))
  have hn1 : n1 = n := ho1.len.trans hlL.out.symm
  have hm1 : m1 = m := hp1.len.trans hlM.out.symm
  subst hn1 hm1
  have hs1 : OwR RJ 4 ((w1.setCell ⟨w.heap.size, 0, none⟩ (.slice A1 n1 c1)).setCell ⟨w.heap.size, 1, none⟩ (.slice B1 m1 d1)) (w.heap.size + 3) 28 A1 n1 c1 L := OwJ.set2 ho1 kh1 (by simp) (by simp; omega) _ _ _ _
  have hs2 : OwR RJ 4 ((w1.setCell ⟨w.heap.size, 0, none⟩ (.slice A1 n1 c1)).setCell ⟨w.heap.size, 1, none⟩ (.slice B1 m1 d1)) (w.heap.size + 3) 28 B1 m1 d1 M := OwJ.set2 hp1 kh1 (by simp) (by simp; omega) _ _ _ _
  have kS : ((w1.setCell ⟨w.heap.size, 0, none⟩ (.slice A1 n1 c1)).setCell ⟨w.heap.size, 1, none⟩ (.slice B1 m1 d1)).heap[w.heap.size]? = some (.cells #[.slice A1 n1 c1, .slice B1 m1 d1] 24 (0, 0)) := by (focus (repeat' first | with_reducible assumption | (with_reducible refine heap_drew ?_) | (with_reducible refine heap_drewN ?_) | (with_reducible refine heap_new ?_; focus (first | rfl | omega | (simp; done))) | (with_reducible refine heap_old ?_) | (with_reducible apply heap_near') | ((with_reducible show Array.setIfInBounds _ _ _ = _); rfl) | (with_reducible refine heap_far ?_ ?_; focus (first | omega | (simp; omega) | (simp; done))) | (with_reducible apply heap_grown; with_reducible assumption; (focus (first | omega | (simp; omega)))) | (with_reducible apply heap_call; with_reducible assumption)))
  have kSj : ((w1.setCell ⟨w.heap.size, 0, none⟩ (.slice A1 n1 c1)).setCell ⟨w.heap.size, 1, none⟩ (.slice B1 m1 d1)).heap[w.heap.size + 1]? = some (.cells #[.int .i64 st, .string us, .int .i64 sp, .string nm] 28 (0, 0)) := by (focus (repeat' first | with_reducible assumption | (with_reducible refine heap_drew ?_) | (with_reducible refine heap_drewN ?_) | (with_reducible refine heap_new ?_; focus (first | rfl | omega | (simp; done))) | (with_reducible refine heap_old ?_) | (with_reducible apply heap_near') | ((with_reducible show Array.setIfInBounds _ _ _ = _); rfl) | (with_reducible refine heap_far ?_ ?_; focus (first | omega | (simp; omega) | (simp; done))) | (with_reducible apply heap_grown; with_reducible assumption; (focus (first | omega | (simp; omega)))) | (with_reducible apply heap_call; with_reducible assumption)))
  have kSr : ((w1.setCell ⟨w.heap.size, 0, none⟩ (.slice A1 n1 c1)).setCell ⟨w.heap.size, 1, none⟩ (.slice B1 m1 d1)).heap[w.heap.size + 2]? = some (.cells #[.slice none 0 0, .slice none 0 0] 24 (0, 0)) := by (focus (repeat' first | with_reducible assumption | (with_reducible refine heap_drew ?_) | (with_reducible refine heap_drewN ?_) | (with_reducible refine heap_new ?_; focus (first | rfl | omega | (simp; done))) | (with_reducible refine heap_old ?_) | (with_reducible apply heap_near') | ((with_reducible show Array.setIfInBounds _ _ _ = _); rfl) | (with_reducible refine heap_far ?_ ?_; focus (first | omega | (simp; omega) | (simp; done))) | (with_reducible apply heap_grown; with_reducible assumption; (focus (first | omega | (simp; omega)))) | (with_reducible apply heap_call; with_reducible assumption)))
  have hbS : Below w.heap.size w ((w1.setCell ⟨w.heap.size, 0, none⟩ (.slice A1 n1 c1)).setCell ⟨w.heap.size, 1, none⟩ (.slice B1 m1 d1)) := by (refine bel_out ?_; (focus (repeat' first | (with_reducible refine bel_refl ?_) | with_reducible assumption | with_reducible refine bel_drew ?_ | with_reducible refine bel_drewN _ ?_ | with_reducible refine bel_alloc _ ?_ | with_reducible refine bel_set ?_ _ ?_ | (with_reducible apply bel_call; with_reducible assumption) | (with_reducible apply bel_owg; with_reducible assumption; (focus omega)) | with_reducible exact Nat.le_refl _ | omega | (simp; done) | (simp; omega))))
  generalize (w1.setCell ⟨w.heap.size, 0, none⟩ (.slice A1 n1 c1)).setCell ⟨w.heap.size, 1, none⟩ (.slice B1 m1 d1) = wS at hs1 hs2 kS kSj kSr hbS ⊢
  clear ho1 hp1 hb1 kc1 kf1 kz1 kh1 kc1j kf1j kz1j kh1j kc1r kf1r kz1r kh1r HOW
  refine (HCO.out _ _ _ _ hs2.rd).mono ?_
  rintro e w2 ⟨rfl, hb2⟩
  obtain ⟨kc2, kf2, kz2, kh2⟩ := blk_cells hb2 (g := w.heap.size) (t := 24) (cs := #[.slice A1 n1 c1, .slice B1 m1 d1]) (by (focus (repeat' first | with_reducible assumption | (with_reducible refine heap_drew ?_) | (with_reducible refine heap_drewN ?_) | (with_reducible refine heap_new ?_; focus (first | rfl | omega | (simp; done))) | (with_reducible refine heap_old ?_) | (with_reducible apply heap_near') | ((with_reducible show Array.setIfInBounds _ _ _ = _); rfl) | (with_reducible refine heap_far ?_ ?_; focus (first | omega | (simp; omega) | (simp; done))) | (with_reducible apply heap_grown; with_reducible assumption; (focus (first | omega | (simp; omega)))) | (with_reducible apply heap_call; with_reducible assumption))))
  obtain ⟨kc2r, kf2r, kz2r, kh2r⟩ := blk_cells hb2 (g := w.heap.size + 2) (t := 24) (cs := #[.slice none 0 0, .slice none 0 0]) (by (focus (repeat' first | with_reducible assumption | (with_reducible refine heap_drew ?_) | (with_reducible refine heap_drewN ?_) | (with_reducible refine heap_new ?_; focus (first | rfl | omega | (simp; done))) | (with_reducible refine heap_old ?_) | (with_reducible apply heap_near') | ((with_reducible show Array.setIfInBounds _ _ _ = _); rfl) | (with_reducible refine heap_far ?_ ?_; focus (first | omega | (simp; omega) | (simp; done))) | (with_reducible apply heap_grown; with_reducible assumption; (focus (first | omega | (simp; omega)))) | (with_reducible apply heap_call; with_reducible assumption))))
  have hs1' := hs1.call RJ.stay hb2
  have hs2' := hs2.call RJ.stay hb2
  have hb02 := below_call hbS hb2
  have hb02z := hb02.size
  clear hs1 hs2 hb2 hbS kS kSj kSr HCO
  rcases hx with ⟨rfl, hno⟩ | ⟨i, rfl, hi, _, _⟩
  · go_wp2_with fail
    refine bodyPost_ret (v := .agg #[.slice A1 n1 c1, .slice B1 m1 d1]) ?_ rfl ⟨A1, n1, c1, B1, m1, d1, rfl, ((hs1'.setX (by show w.heap.size + 1 + 1 < _; omega) _).setX (by show w.heap.size + 1 + 1 < _; omega) _).rd, by rw [HD.out, if_neg (by decide)]; exact ((hs2'.setX (by show w.heap.size + 1 + 1 < _; omega) _).setX (by show w.heap.size + 1 + 1 < _; omega) _).rd, (hb02.setCell (by show w.heap.size ≤ w.heap.size + 1 + 1; omega) _).setCell (by show w.heap.size ≤ w.heap.size + 1 + 1; omega) _⟩
    simp [results, Tryd.results20, go_sem, kc2r]
  · have him : i < m1 := by rw [hlM.out]; exact hi
    obtain ⟨g, rfl, hg1, hg2⟩ := OwJ.block hs2' (by omega)
    have HDE := Lib.hid (delete_job g m1 d1 i ((i : Int) + 1) M (w.heap.size + 3) w2 hs2' him (by omega))
    have HE : Hid (doneL M ⟨st, us, sp, nm⟩ = M.eraseIdx i) := Lib.hid (by rw [HD.out, if_pos (by omega)]; simp)
    have hd0 : decide ((0 : Int) ≤ (i : Int)) = true := by simp
    clear HD hi
    go_wp2_with (go_at_call 40; go_must (refine HDE.out.mono ?_; rintro e w3 ⟨rfl, ho3, hg3⟩; (have kh3 := blk_grown kh2 hg3 (by omega)); (have kh3r := blk_grown kh2r hg3 (by omega)); (have kc3 := Blk.cell kh3); (have kc3r := Blk.cell kh3r); (have kf3 := Blk.frozen kh3); (have kf3r := Blk.frozen kh3r)))
    have hs3 := OwJ.grown hs1' hg3 (fun e => hne1 g e rfl)
    have hb03 : Below w.heap.size w w3 := below_grown hb02 hb02z hg3 (by omega)
    refine bodyPost_ret (v := .agg #[.slice A1 n1 c1, .slice (some ⟨g, 0, none⟩) (m1 - 1) d1]) ?_ rfl ⟨A1, n1, c1, some ⟨g, 0, none⟩, m1 - 1, d1, rfl, (((hs3.setX (by show w.heap.size < _; omega) _).setX (by show w.heap.size + 1 + 1 < _; omega) _).setX (by show w.heap.size + 1 + 1 < _; omega) _).rd, by rw [HE.out]; exact (((ho3.setX (by show w.heap.size < _; omega) _).setX (by show w.heap.size + 1 + 1 < _; omega) _).setX (by show w.heap.size + 1 + 1 < _; omega) _).rd, ((hb03.setCell (Nat.le_refl _) _).setCell (by show w.heap.size ≤ w.heap.size + 1 + 1; omega) _).setCell (by show w.heap.size ≤ w.heap.size + 1 + 1; omega) _⟩
    simp [results, Tryd.results20, go_sem, kc3r]
end Go.Proofs.YtobgnncdldfkkaaDoor
