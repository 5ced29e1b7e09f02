/- The walk of Add. -/
import Derived.Test.YtobgnncdldfkkaaDoorQE
import Derived.Test.YtobgnncdldfkkaaDoorQD
namespace Go.Proofs.YtobgnncdldfkkaaDoor
open Go.RowKit
set_option linter.unusedSimpArgs false
set_option linter.unusedVariables false

/-- a queue that is returned, to be read -/
def RRdQ (w : World) (W T : List Jb) (e : Ending) (w' : World) : Prop := ∃ A n c B m d, e = .returned (.agg #[.slice A n c, .slice B m d]) ∧ RdR RJ 4 w' A n c W ∧ RdR RJ 4 w' B m d T ∧ Below w.heap.size w w'
theorem OwJ.grownB {w w' : World} {base base' e n c : Nat} {A A' B : Option Addr} {L : List Jb} (h : OwR RJ 4 w base e B n c L) (hg : OwG base' w w' A A') (hne : Ne2 A B) : OwR RJ 4 w' base e B n c L :=
  OwJ.kept h fun g hg' => hg.g.block g (OwJ.lt h g hg').2 (fun e1 => hne g e1.symm hg')
theorem OwJ.set1 {w : World} {base base' e n c g : Nat} {A : Option Addr} {L : List Jb} {cs : Array Value} {t : Nat} (h : OwR RJ 4 w base e A n c L) (hh : w.heap[g]? = some (.cells cs t (0, 0))) (hb : base' ≤ base) (hg : g < base) (i : Nat) (u : Value) : OwR RJ 4 (w.setCell ⟨g, i, none⟩ u) base' e A n c L := by
  refine OwJ.kept (h.mono hb) fun g' hg' => ?_
  have hne : g' ≠ g := by have := (OwJ.lt h g' hg').1; omega
  rw [heap_set_far _ _ _ _ _ hne]
theorem OwR.setX {w : World} {base e n c : Nat} {A : Option Addr} {L : List Jb} (h : OwR RJ 4 w base e A n c L) {p : Addr} (hg : p.block < base) (u : Value) : OwR RJ 4 (w.setCell p u) base e A n c L := by
  refine OwJ.kept h fun g' hg' => ?_
  have hne : g' ≠ p.block := by have := (OwJ.lt h g' hg').1; omega
  exact Below.heap_setCell w p u g' hne
theorem addL_hit {W : List Jb} {j : Jb} (h : decide (j ∈ W) = true) : addL W j = W := by unfold addL; rw [if_pos (of_decide_eq_true h)]
theorem addL_miss {W : List Jb} {j : Jb} (h : decide (j ∈ W) = false) : addL W j = W ++ [j] := by unfold addL; rw [if_neg (of_decide_eq_false h)]
theorem Jb.eta (j : Jb) : (⟨j.st, j.us, j.sp, j.nm⟩ : Jb) = j := rfl
theorem RdJ.lit {w : World} {t : Nat} (j : Jb) : Fits RJ 4 w [j] [.int .i64 j.st, .string j.us, .int .i64 j.sp, .string j.nm] := Fits.one rfl rfl

set_option maxRecDepth 100000 in
set_option maxHeartbeats 8000000 in
theorem add_any (A : Option Addr) (n c : Nat) (L : List Jb) (B : Option Addr) (m d : Nat) (M : List Jb) (j : Jb) (w : World) (h : RdR RJ 4 w A n c L) (h2 : RdR RJ 4 w B m d M) (hn : n ≤ 50000) (hm : m ≤ 50000) :
    Calls Tryd.prog 19 #[.agg #[.slice A n c, .slice B m d], j.val] w (RRdQ w (addL L j) M) := by
  have HOW : Hid (∀ W, Below w.heap.size w W → Calls Tryd.prog 37 #[.agg #[.slice A n c, .slice B m d]] W (RNewQ W L M)) := Lib.hid fun W hW => own_any A n c L B m d M W (RdJ.below h hW) (RdJ.below h2 hW) (by omega) (by omega)
  have hlL := Lib.hid h.len
  have hlM := Lib.hid h2.len
  have HCO : Hid (∀ A n c W, RdR RJ 4 W A n c L → Calls Tryd.prog 41 #[.slice A n c, j.val] W fun e w' => e = .returned (.bool (decide (j ∈ L))) ∧ Below W.heap.size W w') := Lib.hid fun A n c W hr => contains_job A n c L j W hr
  have HA1 : Hid (decide (j ∈ L) = true → addL L j = L) := Lib.hid addL_hit
  have HA2 : Hid (decide (j ∈ L) = false → addL L j = L ++ [j]) := Lib.hid addL_miss
  obtain ⟨i0, hi0, hz0, hz1, hz2⟩ := info_parts job_info2
  clear h h2
  have hres : ∃ r, decide (j ∈ L) = r := ⟨_, rfl⟩
  obtain ⟨r, hr⟩ := hres
  rw [hr] at HCO HA1 HA2
  obtain ⟨st, us, sp, nm⟩ := j
  unfold Jb.val at *
  simp only [] at HCO
  clear hr
  go_enter Tryd.func19, Tryd.ntmps19
  go_wp2_with (go_at_call 37; refine (HOW.out _ ?_).mono ?_; (focus (refine bel_out ?_; (focus (repeat' first | (with_reducible refine bel_refl ?_) | with_reducible assumption | with_reducible refine bel_drew ?_ | with_reducible refine bel_drewN _ ?_ | with_reducible refine bel_alloc _ ?_ | with_reducible refine bel_set ?_ _ ?_ | (with_reducible apply bel_call; with_reducible assumption) | (with_reducible apply bel_owg; with_reducible assumption; (focus omega)) | with_reducible exact Nat.le_refl _ | omega | (simp; done) | (simp; omega))))); rintro e w1 ⟨A1, n1, c1, B1, m1, d1, rfl, ho1, hp1, hne1, hb1⟩; obtain ⟨kc1, kf1, kz1, kh1⟩ := blk_cells hb1 (g := w.heap.size) (t := 24) (cs := #[.slice A n c, .slice B m d]) (by (focus (repeat' first | with_reducible assumption | (with_reducible refine heap_drew ?_) | (with_reducible refine heap_drewN ?_) | (with_reducible refine heap_new ?_; focus (first | rfl | omega | (simp; done))) | (with_reducible refine heap_old ?_) | (with_reducible apply heap_near') | ((with_reducible show Array.setIfInBounds _ _ _ = _); rfl) | (with_reducible refine heap_far ?_ ?_; focus (first | omega | (simp; omega) | (simp; done))) | (with_reducible apply heap_grown; with_reducible assumption; (focus (first | omega | (simp; omega)))) | (with_reducible apply heap_call; with_reducible assumption)))); obtain ⟨kc1j, kf1j, kz1j, kh1j⟩ := blk_cells hb1 (g := w.heap.size + 1) (t := 28) (cs := #[.int .i64 st, .string us, .int .i64 sp, .string nm]) (by (focus (repeat' first | with_reducible assumption | (with_reducible refine heap_drew ?_) | (with_reducible refine heap_drewN ?_) | (with_reducible refine heap_new ?_; focus (first | rfl | omega | (simp; done))) | (with_reducible refine heap_old ?_) | (with_reducible apply heap_near') | ((with_reducible show Array.setIfInBounds _ _ _ = _); rfl) | (with_reducible refine heap_far ?_ ?_; focus (first | omega | (simp; omega) | (simp; done))) | (with_reducible apply heap_grown; with_reducible assumption; (focus (first | omega | (simp; omega)))) | (with_reducible apply heap_call; with_reducible assumption)))); obtain ⟨kc1r, kf1r, kz1r, kh1r⟩ := blk_cells hb1 (g := w.heap.size + 2) (t := 24) (cs := #[.slice none 0 0, .slice none 0 0]) (by (focus (repeat' first | with_reducible assumption | (with_reducible refine heap_drew ?_) | (with_reducible refine heap_drewN ?_) | (with_reducible refine heap_new ?_; focus (first | rfl | omega | (simp; done))) | (with_reducible refine heap_old ?_) | (with_reducible apply heap_near') | ((with_reducible show Array.setIfInBounds _ _ _ = _); rfl) | (with_reducible refine heap_far ?_ ?_; focus (first | omega | (simp; omega) | (simp; done))) | (with_reducible apply heap_grown; with_reducible assumption; (focus (first | omega | (simp; omega)))) | (with_reducible apply heap_call; with_reducible assumption)))))
  have hn1 : n1 = n := ho1.len.trans hlL.out.symm
  have hm1 : m1 = m := hp1.len.trans hlM.out.symm
  subst hn1 hm1
  have hs1 : OwR RJ 4 ((w1.setCell ⟨w.heap.size, 0, none⟩ (.slice A1 n1 c1)).setCell ⟨w.heap.size, 1, none⟩ (.slice B1 m1 d1)) (w.heap.size + 3) 28 A1 n1 c1 L := OwJ.set2 ho1 kh1 (by simp) (by simp; omega) _ _ _ _
  have hs2 : OwR RJ 4 ((w1.setCell ⟨w.heap.size, 0, none⟩ (.slice A1 n1 c1)).setCell ⟨w.heap.size, 1, none⟩ (.slice B1 m1 d1)) (w.heap.size + 3) 28 B1 m1 d1 M := OwJ.set2 hp1 kh1 (by simp) (by simp; omega) _ _ _ _
  have kS : ((w1.setCell ⟨w.heap.size, 0, none⟩ (.slice A1 n1 c1)).setCell ⟨w.heap.size, 1, none⟩ (.slice B1 m1 d1)).heap[w.heap.size]? = some (.cells #[.slice A1 n1 c1, .slice B1 m1 d1] 24 (0, 0)) := by (focus (repeat' first | with_reducible assumption | (with_reducible refine heap_drew ?_) | (with_reducible refine heap_drewN ?_) | (with_reducible refine heap_new ?_; focus (first | rfl | omega | (simp; done))) | (with_reducible refine heap_old ?_) | (with_reducible apply heap_near') | ((with_reducible show Array.setIfInBounds _ _ _ = _); rfl) | (with_reducible refine heap_far ?_ ?_; focus (first | omega | (simp; omega) | (simp; done))) | (with_reducible apply heap_grown; with_reducible assumption; (focus (first | omega | (simp; omega)))) | (with_reducible apply heap_call; with_reducible assumption)))
  have kSj : ((w1.setCell ⟨w.heap.size, 0, none⟩ (.slice A1 n1 c1)).setCell ⟨w.heap.size, 1, none⟩ (.slice B1 m1 d1)).heap[w.heap.size + 1]? = some (.cells #[.int .i64 st, .string us, .int .i64 sp, .string nm] 28 (0, 0)) := by (focus (repeat' first | with_reducible assumption | (with_reducible refine heap_drew ?_) | (with_reducible refine heap_drewN ?_) | (with_reducible refine heap_new ?_; focus (first | rfl | omega | (simp; done))) | (with_reducible refine heap_old ?_) | (with_reducible apply heap_near') | ((with_reducible show Array.setIfInBounds _ _ _ = _); rfl) | (with_reducible refine heap_far ?_ ?_; focus (first | omega | (simp; omega) | (simp; done))) | (with_reducible apply heap_grown; with_reducible assumption; (focus (first | omega | (simp; omega)))) | (with_reducible apply heap_call; with_reducible assumption)))
  have kSr : ((w1.setCell ⟨w.heap.size, 0, none⟩ (.slice A1 n1 c1)).setCell ⟨w.heap.size, 1, none⟩ (.slice B1 m1 d1)).heap[w.heap.size + 2]? = some (.cells #[.slice none 0 0, .slice none 0 0] 24 (0, 0)) := by (focus (repeat' first | with_reducible assumption | (with_reducible refine heap_drew ?_) | (with_reducible refine heap_drewN ?_) | (with_reducible refine heap_new ?_; focus (first | rfl | omega | (simp; done))) | (with_reducible refine heap_old ?_) | (with_reducible apply heap_near') | ((with_reducible show Array.setIfInBounds _ _ _ = _); rfl) | (with_reducible refine heap_far ?_ ?_; focus (first | omega | (simp; omega) | (simp; done))) | (with_reducible apply heap_grown; with_reducible assumption; (focus (first | omega | (simp; omega)))) | (with_reducible apply heap_call; with_reducible assumption)))
  have hbS : Below w.heap.size w ((w1.setCell ⟨w.heap.size, 0, none⟩ (.slice A1 n1 c1)).setCell ⟨w.heap.size, 1, none⟩ (.slice B1 m1 d1)) := by (refine bel_out ?_; (focus (repeat' first | (with_reducible refine bel_refl ?_) | with_reducible assumption | with_reducible refine bel_drew ?_ | with_reducible refine bel_drewN _ ?_ | with_reducible refine bel_alloc _ ?_ | with_reducible refine bel_set ?_ _ ?_ | (with_reducible apply bel_call; with_reducible assumption) | (with_reducible apply bel_owg; with_reducible assumption; (focus omega)) | with_reducible exact Nat.le_refl _ | omega | (simp; done) | (simp; omega))))
  generalize (w1.setCell ⟨w.heap.size, 0, none⟩ (.slice A1 n1 c1)).setCell ⟨w.heap.size, 1, none⟩ (.slice B1 m1 d1) = wS at hs1 hs2 kS kSj kSr hbS ⊢
  clear ho1 hp1 hb1 kc1 kf1 kz1 kh1 kc1j kf1j kz1j kh1j kc1r kf1r kz1r kh1r HOW
  refine (HCO.out _ _ _ _ hs1.rd).mono ?_
  rintro e w2 ⟨rfl, hb2⟩
  obtain ⟨kc2, kf2, kz2, kh2⟩ := blk_cells hb2 (g := w.heap.size) (t := 24) (cs := #[.slice A1 n1 c1, .slice B1 m1 d1]) (by (focus (repeat' first | with_reducible assumption | (with_reducible refine heap_drew ?_) | (with_reducible refine heap_drewN ?_) | (with_reducible refine heap_new ?_; focus (first | rfl | omega | (simp; done))) | (with_reducible refine heap_old ?_) | (with_reducible apply heap_near') | ((with_reducible show Array.setIfInBounds _ _ _ = _); rfl) | (with_reducible refine heap_far ?_ ?_; focus (first | omega | (simp; omega) | (simp; done))) | (with_reducible apply heap_grown; with_reducible assumption; (focus (first | omega | (simp; omega)))) | (with_reducible apply heap_call; with_reducible assumption))))
  obtain ⟨kc2j, kf2j, kz2j, kh2j⟩ := blk_cells hb2 (g := w.heap.size + 1) (t := 28) (cs := #[.int .i64 st, .string us, .int .i64 sp, .string nm]) (by (focus (repeat' first | with_reducible assumption | (with_reducible refine heap_drew ?_) | (with_reducible refine heap_drewN ?_) | (with_reducible refine heap_new ?_; focus (first | rfl | omega | (simp; done))) | (with_reducible refine heap_old ?_) | (with_reducible apply heap_near') | ((with_reducible show Array.setIfInBounds _ _ _ = _); rfl) | (with_reducible refine heap_far ?_ ?_; focus (first | omega | (simp; omega) | (simp; done))) | (with_reducible apply heap_grown; with_reducible assumption; (focus (first | omega | (simp; omega)))) | (with_reducible apply heap_call; with_reducible assumption))))
  obtain ⟨kc2r, kf2r, kz2r, kh2r⟩ := blk_cells hb2 (g := w.heap.size + 2) (t := 24) (cs := #[.slice none 0 0, .slice none 0 0]) (by (focus (repeat' first | with_reducible assumption | (with_reducible refine heap_drew ?_) | (with_reducible refine heap_drewN ?_) | (with_reducible refine heap_new ?_; focus (first | rfl | omega | (simp; done))) | (with_reducible refine heap_old ?_) | (with_reducible apply heap_near') | ((with_reducible show Array.setIfInBounds _ _ _ = _); rfl) | (with_reducible refine heap_far ?_ ?_; focus (first | omega | (simp; omega) | (simp; done))) | (with_reducible apply heap_grown; with_reducible assumption; (focus (first | omega | (simp; omega)))) | (with_reducible apply heap_call; with_reducible assumption))))
  have hs1' := hs1.call RJ.stay hb2
  have hs2' := hs2.call RJ.stay hb2
  have hb02 := below_call hbS hb2
  clear hs1 hs2 hb2 hbS kS kSj kSr
  cases r with
  | true =>
    go_wp2_with fail
    refine bodyPost_ret (v := .agg #[.slice A1 n1 c1, .slice B1 m1 d1]) ?_ rfl ⟨A1, n1, c1, B1, m1, d1, rfl, by rw [HA1.out (by first | rfl | trivial)]; exact (OwJ.set2 hs1' kh2r (Nat.le_refl _) (by omega) _ _ _ _).rd, (OwJ.set2 hs2' kh2r (Nat.le_refl _) (by omega) _ _ _ _).rd, by (refine bel_out ?_; (focus (repeat' first | (with_reducible refine bel_refl ?_) | with_reducible assumption | with_reducible refine bel_drew ?_ | with_reducible refine bel_drewN _ ?_ | with_reducible refine bel_alloc _ ?_ | with_reducible refine bel_set ?_ _ ?_ | (with_reducible apply bel_call; with_reducible assumption) | (with_reducible apply bel_owg; with_reducible assumption; (focus omega)) | with_reducible exact Nat.le_refl _ | omega | (simp; done) | (simp; omega))))⟩
    simp [results, Tryd.results19, go_sem, kc2r]
  | false =>
    have hq := Lib.hid (Fits.one (R := RJ) (w := w2.alloc (.cells #[.int .i64 st, .string us, .int .i64 sp, .string nm] 28)) (sz := 4) (a := ⟨st, us, sp, nm⟩) (xs := [.int .i64 st, .string us, .int .i64 sp, .string nm]) rfl rfl)
    have hb02z := hb02.size
    have kS2 := Lib.hid kh2
    have kSj2 := Lib.hid kh2j
    have kSr2 := Lib.hid kh2r
    go_wp2_with (first
      | (at_builtin; go_must (refine wpList_append_r _ rfl (.tmp 13) (.tmp 15) 22 rfl 4 48 (w.heap.size + 3) 28 i0 _ RJ.stay (by decide) Tryd.underlying22 hi0 hz0 hz1 hz2 rfl (by omega) A1 n1 c1 L rfl (hs1'.call RJ.stay ((Below.refl _ _).alloc (Nat.le_refl _) _)) _ 1 1 rfl [⟨st, us, sp, nm⟩] _ (Reads.lit (cs := #[.int .i64 st, .string us, .int .i64 sp, .string nm]) rfl) hq.out rfl ?_ ?_ ?_ ?_ ?_; (focus (simp [Value.oneCell'])); (focus (unfold maxLen; omega)); (focus omega); (focus (simp; omega)); intro A3 c3 w3 ho3 hg3; (have hb3 := hg3.b); (have kh3 : w3.heap[w.heap.size]? = _ := (hb3.block _ (by omega)).trans (heap_old kS2.out)); (have kh3j : w3.heap[w.heap.size + 1]? = _ := (hb3.block _ (by omega)).trans (heap_old kSj2.out)); (have kh3r : w3.heap[w.heap.size + 2]? = _ := (hb3.block _ (by omega)).trans (heap_old kSr2.out)); (have kc3 := Blk.cell kh3); (have kc3r := Blk.cell kh3r); (have kf3 := Blk.frozen kh3); (have kf3r := Blk.frozen kh3r))))
    have hs3 : OwR RJ 4 w3 (w.heap.size + 3) 28 B1 m1 d1 M := OwJ.grownB (hs2'.call RJ.stay ((Below.refl _ _).alloc (Nat.le_refl _) _)) hg3 hne1
    have hb03 : Below w.heap.size w w3 := (hb02.alloc hb02z _).trans (hb3.mono (by omega))
    refine bodyPost_ret (v := .agg #[.slice A3 (n1 + 1) c3, .slice B1 m1 d1]) ?_ rfl ⟨A3, n1 + 1, c3, B1, m1, d1, rfl, by rw [HA2.out (by first | rfl | trivial)]; exact (((ho3.setX (by show w.heap.size < _; omega) _).setX (by show w.heap.size + 1 + 1 < _; omega) _).setX (by show w.heap.size + 1 + 1 < _; omega) _).rd, (((hs3.setX (by show w.heap.size < _; omega) _).setX (by show w.heap.size + 1 + 1 < _; omega) _).setX (by show w.heap.size + 1 + 1 < _; omega) _).rd, ((hb03.setCell (Nat.le_refl _) _).setCell (by show w.heap.size ≤ w.heap.size + 1 + 1; omega) _).setCell (by show w.heap.size ≤ w.heap.size + 1 + 1; omega) _⟩
    simp [results, Tryd.results19, go_sem, kc3r]
end Go.Proofs.YtobgnncdldfkkaaDoor
