/- The walk of Take. -/
import Derived.Test.YtobgnncdldfkkaaDoorQH
namespace Go.Proofs.YtobgnncdldfkkaaDoor
open Go.RowKit
set_option linter.unusedSimpArgs false
set_option linter.unusedVariables false

/-- a queue, a job and whether it was taken -/
def RTk (w : World) (W T : List Jb) (j : Jb) (ok : Bool) (e : Ending) (w' : World) : Prop := ∃ A n c B m d, e = .returned (.tuple #[.agg #[.slice A n c, .slice B m d], j.val, .bool ok]) ∧ RdR RJ 4 w' A n c W ∧ RdR RJ 4 w' B m d T ∧ Below w.heap.size w w'
theorem delete_jobI (g n c i : Nat) (I J : Int) (L : List Jb) (base : Nat) (w : World) (h : OwR RJ 4 w base 28 (some ⟨g, 0, none⟩) n c L) (hi : i < n) (hI : I = (i : Int)) (hJ : J = (i : Int) + 1) :
    Calls Tryd.prog 40 #[.slice (some ⟨g, 0, none⟩) n c, .int .i64 I, .int .i64 J] w fun e w' => e = .returned (.slice (some ⟨g, 0, none⟩) (n - 1) c) ∧ OwR RJ 4 w' base 28 (some ⟨g, 0, none⟩) (n - 1) c (L.eraseIdx i) ∧ w.grownBy w' (some g) := by
  subst hI
  exact delete_job g n c i J L base w h hi (by omega)
theorem OwJ.cellsAt {w : World} {base e g n c : Nat} {L : List Jb} (h : OwR RJ 4 w base e (some ⟨g, 0, none⟩) n c L) {k : Nat} (hk : k < n) :
    w.cell? ⟨g, k * 4, none⟩ = some (.int .i64 (L.getD k jb0).st) ∧ w.cell? ⟨g, k * 4 + 1, none⟩ = some (.string (L.getD k jb0).us) ∧ w.cell? ⟨g, k * 4 + 2, none⟩ = some (.int .i64 (L.getD k jb0).sp) ∧ w.cell? ⟨g, k * 4 + 3, none⟩ = some (.string (L.getD k jb0).nm) := by
  obtain ⟨b, off, e1, hb, hc⟩ := RdJ.opened h.rd (by omega)
  injection e1 with e1
  injection e1 with e1 e2
  subst e1 e2
  have := hc k hk
  simpa using this
theorem OwR.drewX {w : World} {base e n c : Nat} {A : Option Addr} {L : List Jb} (h : OwR RJ 4 w base e A n c L) : OwR RJ 4 w.drew base e A n c L := ⟨h.len, h.cap, h.max, h.own⟩
theorem tk_none {W T : List Jb} (h : tkAt W T = none) : tkW W T = W ∧ tkT W T = T ∧ tkJ W T = jb0 ∧ tkOk W T = false := by
  unfold tkW tkT tkJ tkOk
  rw [h]
  exact ⟨rfl, rfl, rfl, rfl⟩
theorem tk_some {W T : List Jb} {i : Nat} (h : tkAt W T = some i) : tkW W T = W.eraseIdx i ∧ tkT W T = T ++ [W.getD i jb0] ∧ tkJ W T = W.getD i jb0 ∧ tkOk W T = true := by
  unfold tkW tkT tkJ tkOk
  rw [h]
  exact ⟨rfl, rfl, rfl, rfl⟩

set_option maxRecDepth 100000 in
set_option maxHeartbeats 8000000 in
theorem take_any (A : Option Addr) (n c : Nat) (L : List Jb) (B : Option Addr) (m d : Nat) (M : List Jb) (x : Int) (w : World) (h : RdR RJ 4 w A n c L) (h2 : RdR RJ 4 w B m d M) (hx : Hm x w) (hn : n ≤ 50000) (hm : m ≤ 50000) :
    Calls Tryd.prog 18 #[.agg #[.slice A n c, .slice B m d]] w (RTk w (tkW L M) (tkT L M) (tkJ L M) (tkOk L M)) := by
  have HOW : Hid (∀ W, Below w.heap.size w W → Calls Tryd.prog 37 #[.agg #[.slice A n c, .slice B m d]] W (RNewQ W L M)) := Lib.hid fun W hW => own_any A n c L B m d M W (RdJ.below h hW) (RdJ.below h2 hW) (by omega) (by omega)
  have hlL := Lib.hid h.len
  have hlM := Lib.hid h2.len
  have HX : Hid (∀ W, Below w.heap.size w W → Hm x W) := Lib.hid fun W hW => hx.below hW
  have HIF : Hid (∀ A n c W, Below w.heap.size w W → RdR RJ 4 W A n c L → Calls Tryd.prog 38 #[.slice A n c, .func (.func 39) #[] #[]] W fun e w' => e = .returned (.int .i64 (eIdx L)) ∧ Below W.heap.size W w') := Lib.hid fun A n c W hW hr => indexfunc_early A n c L x W hr (HX.out W hW)
  have HCF : Hid (∀ A n c W, Below w.heap.size w W → RdR RJ 4 W A n c M → Calls Tryd.prog 35 #[.slice A n c, .func (.func 39) #[] #[]] W fun e w' => e = .returned (.bool (M.any (fun a => je a))) ∧ Below W.heap.size W w') := Lib.hid fun A n c W hW hr => containsfunc_early A n c M x W hr (HX.out W hW)
  have HTK : Hid (tkAt L M = if 0 ≤ eIdx L then some (eIdx L).toNat else if L = [] ∨ M.any (fun a => je a) = true then none else some 0) := Lib.hid rfl
  have hlt := Lib.hid (fun i (e : tkAt L M = some i) => tkAt_lt e)
  have hE1 : -1 ≤ eIdx L := by
    rcases fIdx_range (fun a => je a) L with ⟨h1, _⟩ | ⟨k, h1, _⟩
    · unfold eIdx; omega
    · unfold eIdx; omega
  have HN := Lib.hid (fun e : tkAt L M = none => tk_none e)
  have HS := Lib.hid (fun i (e : tkAt L M = some i) => tk_some e)
  generalize tkW L M = rW at *
  generalize tkT L M = rT at *
  generalize tkJ L M = rJ at *
  generalize tkOk L M = rO at *
  generalize tkAt L M = rA at *
  obtain ⟨i0, hi0, hz0, hz1, hz2⟩ := info_parts job_info2
  generalize eIdx L = r at *
  generalize M.any (fun a => je a) = r2 at *
  have hzero : jb0.val = .agg #[.int .i64 0, .string ⟨#[]⟩, .int .i64 0, .string ⟨#[]⟩] := rfl
  clear h h2 hx
  go_enter Tryd.func18, Tryd.ntmps18
  go_wp2_with (go_at_call 37; refine (HOW.out _ ?_).mono ?_; (focus (refine bel_out ?_; (focus (repeat' first | (with_reducible refine bel_refl ?_) | with_reducible assumption | with_reducible refine bel_drew ?_ | with_reducible refine bel_drewN _ ?_ | with_reducible refine bel_alloc _ ?_ | with_reducible refine bel_set ?_ _ ?_ | (with_reducible apply bel_call; with_reducible assumption) | (with_reducible apply bel_owg; with_reducible assumption; (focus omega)) | with_reducible exact Nat.le_refl _ | omega | (simp; done) | (simp; omega))))); rintro e w1 ⟨A1, n1, c1, B1, m1, d1, rfl, ho1, hp1, hne1, hb1⟩; obtain ⟨kc1, kf1, kz1, kh1⟩ := blk_cells hb1 (g := w.heap.size) (t := 24) (cs := #[.slice A n c, .slice B m d]) (by (focus (repeat' first | with_reducible assumption | (with_reducible refine heap_drew ?_) | (with_reducible refine heap_drewN ?_) | (with_reducible refine heap_new ?_; focus (first | rfl | omega | (simp; done))) | (with_reducible refine heap_old ?_) | (with_reducible apply heap_near') | ((with_reducible show Array.setIfInBounds _ _ _ = _); rfl) | (with_reducible refine heap_far ?_ ?_; focus (first | omega | (simp; omega) | (simp; done))) | (with_reducible apply heap_grown; with_reducible assumption; (focus (first | omega | (simp; omega)))) | (with_reducible apply heap_call; with_reducible assumption)))); obtain ⟨kc1r, kf1r, kz1r, kh1r⟩ := blk_cells hb1 (g := w.heap.size + 1) (t := 24) (cs := #[.slice none 0 0, .slice none 0 0]) (by (focus (repeat' first | with_reducible assumption | (with_reducible refine heap_drew ?_) | (with_reducible refine heap_drewN ?_) | (with_reducible refine heap_new ?_; focus (first | rfl | omega | (simp; done))) | (with_reducible refine heap_old ?_) | (with_reducible apply heap_near') | ((with_reducible show Array.setIfInBounds _ _ _ = _); rfl) | (with_reducible refine heap_far ?_ ?_; focus (first | omega | (simp; omega) | (simp; done))) | (with_reducible apply heap_grown; with_reducible assumption; (focus (first | omega | (simp; omega)))) | (with_reducible apply heap_call; with_reducible assumption)))); obtain ⟨kc1j, kf1j, kz1j, kh1j⟩ := blk_cells hb1 (g := w.heap.size + 2) (t := 28) (cs := #[.int .i64 0, .string ⟨#[]⟩, .int .i64 0, .string ⟨#[]⟩]) (by (focus (repeat' first | with_reducible assumption | (with_reducible refine heap_drew ?_) | (with_reducible refine heap_drewN ?_) | (with_reducible refine heap_new ?_; focus (first | rfl | omega | (simp; done))) | (with_reducible refine heap_old ?_) | (with_reducible apply heap_near') | ((with_reducible show Array.setIfInBounds _ _ _ = _); rfl) | (with_reducible refine heap_far ?_ ?_; focus (first | omega | (simp; omega) | (simp; done))) | (with_reducible apply heap_grown; with_reducible assumption; (focus (first | omega | (simp; omega)))) | (with_reducible apply heap_call; with_reducible assumption)))))
  have hn1 : n1 = n := ho1.len.trans hlL.out.symm
  have hm1 : m1 = m := hp1.len.trans hlM.out.symm
  subst hn1 hm1
  have hs1 : OwR RJ 4 ((w1.setCell ⟨w.heap.size, 0, none⟩ (.slice A1 n1 c1)).setCell ⟨w.heap.size, 1, none⟩ (.slice B1 m1 d1)) (w.heap.size + 3) 28 A1 n1 c1 L := OwJ.set2 ho1 kh1 (by simp) (by simp; omega) _ _ _ _
  have hs2 : OwR RJ 4 ((w1.setCell ⟨w.heap.size, 0, none⟩ (.slice A1 n1 c1)).setCell ⟨w.heap.size, 1, none⟩ (.slice B1 m1 d1)) (w.heap.size + 3) 28 B1 m1 d1 M := OwJ.set2 hp1 kh1 (by simp) (by simp; omega) _ _ _ _
  have kS : ((w1.setCell ⟨w.heap.size, 0, none⟩ (.slice A1 n1 c1)).setCell ⟨w.heap.size, 1, none⟩ (.slice B1 m1 d1)).heap[w.heap.size]? = some (.cells #[.slice A1 n1 c1, .slice B1 m1 d1] 24 (0, 0)) := by (focus (repeat' first | with_reducible assumption | (with_reducible refine heap_drew ?_) | (with_reducible refine heap_drewN ?_) | (with_reducible refine heap_new ?_; focus (first | rfl | omega | (simp; done))) | (with_reducible refine heap_old ?_) | (with_reducible apply heap_near') | ((with_reducible show Array.setIfInBounds _ _ _ = _); rfl) | (with_reducible refine heap_far ?_ ?_; focus (first | omega | (simp; omega) | (simp; done))) | (with_reducible apply heap_grown; with_reducible assumption; (focus (first | omega | (simp; omega)))) | (with_reducible apply heap_call; with_reducible assumption)))
  have kSj : ((w1.setCell ⟨w.heap.size, 0, none⟩ (.slice A1 n1 c1)).setCell ⟨w.heap.size, 1, none⟩ (.slice B1 m1 d1)).heap[w.heap.size + 1]? = some (.cells #[.slice none 0 0, .slice none 0 0] 24 (0, 0)) := by (focus (repeat' first | with_reducible assumption | (with_reducible refine heap_drew ?_) | (with_reducible refine heap_drewN ?_) | (with_reducible refine heap_new ?_; focus (first | rfl | omega | (simp; done))) | (with_reducible refine heap_old ?_) | (with_reducible apply heap_near') | ((with_reducible show Array.setIfInBounds _ _ _ = _); rfl) | (with_reducible refine heap_far ?_ ?_; focus (first | omega | (simp; omega) | (simp; done))) | (with_reducible apply heap_grown; with_reducible assumption; (focus (first | omega | (simp; omega)))) | (with_reducible apply heap_call; with_reducible assumption)))
  have kSr : ((w1.setCell ⟨w.heap.size, 0, none⟩ (.slice A1 n1 c1)).setCell ⟨w.heap.size, 1, none⟩ (.slice B1 m1 d1)).heap[w.heap.size + 2]? = some (.cells #[.int .i64 0, .string ⟨#[]⟩, .int .i64 0, .string ⟨#[]⟩] 28 (0, 0)) := by (focus (repeat' first | with_reducible assumption | (with_reducible refine heap_drew ?_) | (with_reducible refine heap_drewN ?_) | (with_reducible refine heap_new ?_; focus (first | rfl | omega | (simp; done))) | (with_reducible refine heap_old ?_) | (with_reducible apply heap_near') | ((with_reducible show Array.setIfInBounds _ _ _ = _); rfl) | (with_reducible refine heap_far ?_ ?_; focus (first | omega | (simp; omega) | (simp; done))) | (with_reducible apply heap_grown; with_reducible assumption; (focus (first | omega | (simp; omega)))) | (with_reducible apply heap_call; with_reducible assumption)))
  have hbS : Below w.heap.size w ((w1.setCell ⟨w.heap.size, 0, none⟩ (.slice A1 n1 c1)).setCell ⟨w.heap.size, 1, none⟩ (.slice B1 m1 d1)) := by (refine bel_out ?_; (focus (repeat' first | (with_reducible refine bel_refl ?_) | with_reducible assumption | with_reducible refine bel_drew ?_ | with_reducible refine bel_drewN _ ?_ | with_reducible refine bel_alloc _ ?_ | with_reducible refine bel_set ?_ _ ?_ | (with_reducible apply bel_call; with_reducible assumption) | (with_reducible apply bel_owg; with_reducible assumption; (focus omega)) | with_reducible exact Nat.le_refl _ | omega | (simp; done) | (simp; omega))))
  generalize (w1.setCell ⟨w.heap.size, 0, none⟩ (.slice A1 n1 c1)).setCell ⟨w.heap.size, 1, none⟩ (.slice B1 m1 d1) = wS at hs1 hs2 kS kSj kSr hbS ⊢
  clear ho1 hp1 hb1 kc1 kf1 kz1 kh1 kc1j kf1j kz1j kh1j kc1r kf1r kz1r kh1r HOW
  refine (HIF.out _ _ _ _ hbS hs1.rd).mono ?_
  rintro e w2 ⟨rfl, hb2⟩
  obtain ⟨kc2, kf2, kz2, kh2⟩ := blk_cells hb2 (g := w.heap.size) (t := 24) (cs := #[.slice A1 n1 c1, .slice B1 m1 d1]) (by (focus (repeat' first | with_reducible assumption | (with_reducible refine heap_drew ?_) | (with_reducible refine heap_drewN ?_) | (with_reducible refine heap_new ?_; focus (first | rfl | omega | (simp; done))) | (with_reducible refine heap_old ?_) | (with_reducible apply heap_near') | ((with_reducible show Array.setIfInBounds _ _ _ = _); rfl) | (with_reducible refine heap_far ?_ ?_; focus (first | omega | (simp; omega) | (simp; done))) | (with_reducible apply heap_grown; with_reducible assumption; (focus (first | omega | (simp; omega)))) | (with_reducible apply heap_call; with_reducible assumption))))
  obtain ⟨kc2r, kf2r, kz2r, kh2r⟩ := blk_cells hb2 (g := w.heap.size + 1) (t := 24) (cs := #[.slice none 0 0, .slice none 0 0]) (by (focus (repeat' first | with_reducible assumption | (with_reducible refine heap_drew ?_) | (with_reducible refine heap_drewN ?_) | (with_reducible refine heap_new ?_; focus (first | rfl | omega | (simp; done))) | (with_reducible refine heap_old ?_) | (with_reducible apply heap_near') | ((with_reducible show Array.setIfInBounds _ _ _ = _); rfl) | (with_reducible refine heap_far ?_ ?_; focus (first | omega | (simp; omega) | (simp; done))) | (with_reducible apply heap_grown; with_reducible assumption; (focus (first | omega | (simp; omega)))) | (with_reducible apply heap_call; with_reducible assumption))))
  obtain ⟨kc2j, kf2j, kz2j, kh2j⟩ := blk_cells hb2 (g := w.heap.size + 2) (t := 28) (cs := #[.int .i64 0, .string ⟨#[]⟩, .int .i64 0, .string ⟨#[]⟩]) (by (focus (repeat' first | with_reducible assumption | (with_reducible refine heap_drew ?_) | (with_reducible refine heap_drewN ?_) | (with_reducible refine heap_new ?_; focus (first | rfl | omega | (simp; done))) | (with_reducible refine heap_old ?_) | (with_reducible apply heap_near') | ((with_reducible show Array.setIfInBounds _ _ _ = _); rfl) | (with_reducible refine heap_far ?_ ?_; focus (first | omega | (simp; omega) | (simp; done))) | (with_reducible apply heap_grown; with_reducible assumption; (focus (first | omega | (simp; omega)))) | (with_reducible apply heap_call; with_reducible assumption))))
  have hs1' := hs1.call RJ.stay hb2
  have hs2' := hs2.call RJ.stay hb2
  have hb02 := below_call hbS hb2
  have hb02z := hb02.size
  clear hs1 hs2 hb2 hbS kS kSj kSr HIF
  by_cases hr0 : r < 0
  · have hrd : decide (r < 0) = true := decide_eq_true hr0
    rw [if_neg (by omega)] at HTK
    by_cases hL0 : n1 = 0
    · have hLn : L = [] := List.length_eq_zero_iff.1 (by rw [← hlL.out]; exact hL0)
      have HNN := Lib.hid (HN.out (by rw [HTK.out, if_pos (.inl hLn)]))
      have hld : ((n1 : Int) == 0) = true := by simp; exact hL0
      clear HTK HN HS hlt hLn
      subst hL0
      go_wp2_with fail
      refine bodyPost_ret (v := .tuple #[.agg #[.slice A1 0 c1, .slice B1 m1 d1], jb0.val, .bool false]) ?_ rfl ⟨A1, 0, c1, B1, m1, d1, ?_, ?_, ?_, ?_⟩
      · simp [results, Tryd.results18, go_sem, kc2r, kc2j, hzero]
      · rw [HNN.out.2.2.1, HNN.out.2.2.2]
      · rw [HNN.out.1]; (refine OwR.rd (base := w.heap.size + 3) (e := 28) ?_; (repeat (first | (with_reducible refine OwR.drewX ?_) | (with_reducible refine OwR.setX ?_ (?hlt : _ < _) _; case hlt => (dsimp only; omega)))); exact hs1')
      · rw [HNN.out.2.1]; (refine OwR.rd (base := w.heap.size + 3) (e := 28) ?_; (repeat (first | (with_reducible refine OwR.drewX ?_) | (with_reducible refine OwR.setX ?_ (?hlt : _ < _) _; case hlt => (dsimp only; omega)))); exact hs2')
      · (refine bel_out ?_; (focus (repeat' first | (with_reducible refine bel_refl ?_) | with_reducible assumption | with_reducible refine bel_drew ?_ | with_reducible refine bel_drewN _ ?_ | with_reducible refine bel_alloc _ ?_ | with_reducible refine bel_set ?_ _ ?_ | (with_reducible apply bel_call; with_reducible assumption) | (with_reducible apply bel_owg; with_reducible assumption; (focus omega)) | with_reducible exact Nat.le_refl _ | omega | (simp; done) | (simp; omega))))
    · have hLn : L ≠ [] := fun e => hL0 (by rw [hlL.out, e]; rfl)
      have hld : ((n1 : Int) == 0) = false := by simp; exact hL0
      cases r2 with
      | true =>
        have HNN := Lib.hid (HN.out (by rw [HTK.out, if_pos (.inr rfl)]))
        clear HTK HN HS hlt hLn
        go_wp2_with (go_at_call 35; go_must (refine (HCF.out _ _ _ _ hb02 hs2'.rd).mono ?_; rintro e w3 ⟨rfl, hb3⟩; obtain ⟨kc3, kf3, kz3, kh3⟩ := blk_cells hb3 (g := w.heap.size) (t := 24) (cs := #[.slice A1 n1 c1, .slice B1 m1 d1]) (by (focus (repeat' first | with_reducible assumption | (with_reducible refine heap_drew ?_) | (with_reducible refine heap_drewN ?_) | (with_reducible refine heap_new ?_; focus (first | rfl | omega | (simp; done))) | (with_reducible refine heap_old ?_) | (with_reducible apply heap_near') | ((with_reducible show Array.setIfInBounds _ _ _ = _); rfl) | (with_reducible refine heap_far ?_ ?_; focus (first | omega | (simp; omega) | (simp; done))) | (with_reducible apply heap_grown; with_reducible assumption; (focus (first | omega | (simp; omega)))) | (with_reducible apply heap_call; with_reducible assumption)))); obtain ⟨kc3r, kf3r, kz3r, kh3r⟩ := blk_cells hb3 (g := w.heap.size + 1) (t := 24) (cs := #[.slice none 0 0, .slice none 0 0]) (by (focus (repeat' first | with_reducible assumption | (with_reducible refine heap_drew ?_) | (with_reducible refine heap_drewN ?_) | (with_reducible refine heap_new ?_; focus (first | rfl | omega | (simp; done))) | (with_reducible refine heap_old ?_) | (with_reducible apply heap_near') | ((with_reducible show Array.setIfInBounds _ _ _ = _); rfl) | (with_reducible refine heap_far ?_ ?_; focus (first | omega | (simp; omega) | (simp; done))) | (with_reducible apply heap_grown; with_reducible assumption; (focus (first | omega | (simp; omega)))) | (with_reducible apply heap_call; with_reducible assumption)))); obtain ⟨kc3j, kf3j, kz3j, kh3j⟩ := blk_cells hb3 (g := w.heap.size + 2) (t := 28) (cs := #[.int .i64 0, .string ⟨#[]⟩, .int .i64 0, .string ⟨#[]⟩]) (by (focus (repeat' first | with_reducible assumption | (with_reducible refine heap_drew ?_) | (with_reducible refine heap_drewN ?_) | (with_reducible refine heap_new ?_; focus (first | rfl | omega | (simp; done))) | (with_reducible refine heap_old ?_) | (with_reducible apply heap_near') | ((with_reducible show Array.setIfInBounds _ _ _ = _); rfl) | (with_reducible refine heap_far ?_ ?_; focus (first | omega | (simp; omega) | (simp; done))) | (with_reducible apply heap_grown; with_reducible assumption; (focus (first | omega | (simp; omega)))) | (with_reducible apply heap_call; with_reducible assumption))))))
        have hs1b := hs1'.call RJ.stay hb3
        have hs2b := hs2'.call RJ.stay hb3
        have hb03 := below_call hb02 hb3
        have hb03z := hb03.size
        refine bodyPost_ret (v := .tuple #[.agg #[.slice A1 n1 c1, .slice B1 m1 d1], jb0.val, .bool false]) ?_ rfl ⟨A1, n1, c1, B1, m1, d1, ?_, ?_, ?_, ?_⟩
        · simp [results, Tryd.results18, go_sem, kc3r, kc3j, hzero]
        · rw [HNN.out.2.2.1, HNN.out.2.2.2]
        · rw [HNN.out.1]; (refine OwR.rd (base := w.heap.size + 3) (e := 28) ?_; (repeat (first | (with_reducible refine OwR.drewX ?_) | (with_reducible refine OwR.setX ?_ (?hlt : _ < _) _; case hlt => (dsimp only; omega)))); exact hs1b)
        · rw [HNN.out.2.1]; (refine OwR.rd (base := w.heap.size + 3) (e := 28) ?_; (repeat (first | (with_reducible refine OwR.drewX ?_) | (with_reducible refine OwR.setX ?_ (?hlt : _ < _) _; case hlt => (dsimp only; omega)))); exact hs2b)
        · (refine bel_out ?_; (focus (repeat' first | (with_reducible refine bel_refl ?_) | with_reducible assumption | with_reducible refine bel_drew ?_ | with_reducible refine bel_drewN _ ?_ | with_reducible refine bel_alloc _ ?_ | with_reducible refine bel_set ?_ _ ?_ | (with_reducible apply bel_call; with_reducible assumption) | (with_reducible apply bel_owg; with_reducible assumption; (focus omega)) | with_reducible exact Nat.le_refl _ | omega | (simp; done) | (simp; omega))))
      | false =>
        obtain ⟨i, hi⟩ : ∃ i : Nat, i = 0 := ⟨0, rfl⟩
        have HSS := Lib.hid (HS.out i (by rw [HTK.out, if_neg (by simp [hLn]), hi]))
        have him : i < n1 := by omega
        have hmx : max r 0 = (i : Int) := by omega
        clear HTK HN HS hlt hLn hi
        go_wp2_with fail
        go_at_call 35
        refine (HCF.out _ _ _ _ hb02 hs2'.rd).mono ?_
        rintro e w3 ⟨rfl, hb3⟩
        obtain ⟨kc3, kf3, kz3, kh3⟩ := blk_cells hb3 (g := w.heap.size) (t := 24) (cs := #[.slice A1 n1 c1, .slice B1 m1 d1]) (by (focus (repeat' first | with_reducible assumption | (with_reducible refine heap_drew ?_) | (with_reducible refine heap_drewN ?_) | (with_reducible refine heap_new ?_; focus (first | rfl | omega | (simp; done))) | (with_reducible refine heap_old ?_) | (with_reducible apply heap_near') | ((with_reducible show Array.setIfInBounds _ _ _ = _); rfl) | (with_reducible refine heap_far ?_ ?_; focus (first | omega | (simp; omega) | (simp; done))) | (with_reducible apply heap_grown; with_reducible assumption; (focus (first | omega | (simp; omega)))) | (with_reducible apply heap_call; with_reducible assumption))))
        obtain ⟨kc3r, kf3r, kz3r, kh3r⟩ := blk_cells hb3 (g := w.heap.size + 1) (t := 24) (cs := #[.slice none 0 0, .slice none 0 0]) (by (focus (repeat' first | with_reducible assumption | (with_reducible refine heap_drew ?_) | (with_reducible refine heap_drewN ?_) | (with_reducible refine heap_new ?_; focus (first | rfl | omega | (simp; done))) | (with_reducible refine heap_old ?_) | (with_reducible apply heap_near') | ((with_reducible show Array.setIfInBounds _ _ _ = _); rfl) | (with_reducible refine heap_far ?_ ?_; focus (first | omega | (simp; omega) | (simp; done))) | (with_reducible apply heap_grown; with_reducible assumption; (focus (first | omega | (simp; omega)))) | (with_reducible apply heap_call; with_reducible assumption))))
        obtain ⟨kc3j, kf3j, kz3j, kh3j⟩ := blk_cells hb3 (g := w.heap.size + 2) (t := 28) (cs := #[.int .i64 0, .string ⟨#[]⟩, .int .i64 0, .string ⟨#[]⟩]) (by (focus (repeat' first | with_reducible assumption | (with_reducible refine heap_drew ?_) | (with_reducible refine heap_drewN ?_) | (with_reducible refine heap_new ?_; focus (first | rfl | omega | (simp; done))) | (with_reducible refine heap_old ?_) | (with_reducible apply heap_near') | ((with_reducible show Array.setIfInBounds _ _ _ = _); rfl) | (with_reducible refine heap_far ?_ ?_; focus (first | omega | (simp; omega) | (simp; done))) | (with_reducible apply heap_grown; with_reducible assumption; (focus (first | omega | (simp; omega)))) | (with_reducible apply heap_call; with_reducible assumption))))
        have hs1b := hs1'.call RJ.stay hb3
        have hs2b := hs2'.call RJ.stay hb3
        have hb03 := below_call hb02 hb3
        have hb03z := hb03.size
        clear hs1' hs2' hb3 kc2 kf2 kh2 kz2 kc2r kf2r kh2r kz2r kc2j kf2j kh2j kz2j hb02 hb02z
        obtain ⟨g, rfl, hg1, hg2⟩ := OwJ.block hs1b (by omega)
        obtain ⟨q1, q2, q3, q4⟩ := OwJ.cellsAt hs1b him
        have z0 : (0 : Int) ≤ (i : Int) := by omega
        have z1 : (i : Int) < (n1 : Int) := by omega
        generalize L.getD i jb0 = jj at *
        obtain ⟨st, us, sp, nm⟩ := jj
        simp only [] at q1 q2 q3 q4
        have HDE := Lib.hid (delete_jobI g n1 c1 i (i : Int) ((i : Int) + 1) L (w.heap.size + 3) (w3.alloc (.cells #[.int .i64 st, .string us, .int .i64 sp, .string nm] 28)) (hs1b.call RJ.stay ((Below.refl _ _).alloc (Nat.le_refl _) _)) him rfl rfl)
        have hs2c : OwR RJ 4 (w3.alloc (.cells #[.int .i64 st, .string us, .int .i64 sp, .string nm] 28)) (w.heap.size + 3) 28 B1 m1 d1 M := hs2b.call RJ.stay ((Below.refl _ _).alloc (Nat.le_refl _) _)
        have hBne : B1.map (·.block) ≠ some w3.heap.size := fun e => by have := (OwJ.lt hs2b _ e).2; omega
        have hBg : B1.map (·.block) ≠ some g := fun e => hne1 g rfl e
        have ka2 : (w3.alloc (.cells #[.int .i64 st, .string us, .int .i64 sp, .string nm] 28)).heap[w.heap.size]? = some (.cells #[.slice (some ⟨g, 0, none⟩) n1 c1, .slice B1 m1 d1] 24 (0, 0)) := heap_old kh3
        have ka2r : (w3.alloc (.cells #[.int .i64 st, .string us, .int .i64 sp, .string nm] 28)).heap[w.heap.size + 1]? = some (.cells #[.slice none 0 0, .slice none 0 0] 24 (0, 0)) := heap_old kh3r
        have ka2j : (w3.alloc (.cells #[.int .i64 st, .string us, .int .i64 sp, .string nm] 28)).heap[w.heap.size + 2]? = some (.cells #[.int .i64 0, .string ⟨#[]⟩, .int .i64 0, .string ⟨#[]⟩] 28 (0, 0)) := heap_old kh3j
        have ka2t : (w3.alloc (.cells #[.int .i64 st, .string us, .int .i64 sp, .string nm] 28)).heap[w3.heap.size]? = some (.cells #[.int .i64 st, .string us, .int .i64 sp, .string nm] 28 (0, 0)) := heap_new rfl
        have hbA : Below w.heap.size w (w3.alloc (.cells #[.int .i64 st, .string us, .int .i64 sp, .string nm] 28)) := hb03.alloc hb03z _
        have hlitf := Lib.hid (fun W => RdJ.lit (w := W) (t := 0) ⟨st, us, sp, nm⟩)
        go_wp2_with (first
          | (go_at_call 40; go_must (refine HDE.out.mono ?_; rintro e w4 ⟨rfl, ho4, hg4⟩; (have kh4 := blk_grown ka2 hg4 (by omega)); (have kh4r := blk_grown ka2r hg4 (by omega)); (have kh4j := blk_grown ka2j hg4 (by omega)); (have kh4t := blk_grown ka2t hg4 (by omega)); (have hs4 := OwJ.grown hs2c hg4 hBg); (have hb4 := below_grown hbA (by simp; omega) hg4 (by omega)); (have hz4 := hg4.size); (have kc4 := Blk.cell kh4); (have kf4 := Blk.frozen kh4); (have kc4t := Blk.cell kh4t)))
          | (at_builtin; go_must (refine wpList_append_r _ rfl (.tmp 42) (.tmp 44) 22 rfl 4 48 (w.heap.size + 3) 28 i0 _ RJ.stay (by decide) Tryd.underlying22 hi0 hz0 hz1 hz2 rfl (by omega) B1 m1 d1 M rfl ((OwR.setX hs4 (by show w.heap.size < _; omega) _).call RJ.stay ((Below.refl _ _).alloc (Nat.le_refl _) _)) _ 1 1 rfl [⟨st, us, sp, nm⟩] _ (Reads.litAt (cs := #[.int .i64 st, .string us, .int .i64 sp, .string nm]) (by rw [size_set]) rfl) (hlitf.out _) rfl ?_ ?_ ?_ ?_ ?_; (focus (simp [Value.oneCell'])); (focus (unfold maxLen; omega)); (focus omega); (focus (simp; simp at hz4; omega)); intro A5 c5 w5 ho5 hg5; (have kh5 : w5.heap[w.heap.size]? = some (.cells #[.slice (some ⟨g, 0, none⟩) (n1 - 1) c1, .slice B1 m1 d1] 24 (0, 0)) := (hg5.b.block _ (by omega)).trans (heap_old (heap_set_near _ _ _ _ _ _ kh4))); (have kh5r : w5.heap[w.heap.size + 1]? = _ := (hg5.b.block _ (by omega)).trans (heap_old ((heap_set_far _ _ _ _ _ (by omega)).trans kh4r))); (have kh5j : w5.heap[w.heap.size + 2]? = _ := (hg5.b.block _ (by omega)).trans (heap_old ((heap_set_far _ _ _ _ _ (by omega)).trans kh4j))); (have kh5t : w5.heap[w3.heap.size]? = _ := OwG.heap hg5 hBne (heap_old ((heap_set_far _ _ _ _ _ (by omega)).trans kh4t))); (have kc5 := Blk.cell kh5); (have kf5 := Blk.frozen kh5))))
        have hs5 : OwR RJ 4 w5 (w.heap.size + 3) 28 (some ⟨g, 0, none⟩) (n1 - 1) c1 (L.eraseIdx i) := OwJ.grownB ((OwR.setX ho4 (by show w.heap.size < _; omega) _).call RJ.stay ((Below.refl _ _).alloc (Nat.le_refl _) _)) hg5 hne1.symm
        have hs6 := OwR.setX (p := ⟨w.heap.size, 1, none⟩) hs5 (by show w.heap.size < _; omega) (.slice A5 (m1 + 1) c5)
        have ho6 := OwR.setX (p := ⟨w.heap.size, 1, none⟩) ho5 (by show w.heap.size < _; omega) (.slice A5 (m1 + 1) c5)
        have hb6 : Below w.heap.size w (w5.setCell ⟨w.heap.size, 1, none⟩ (.slice A5 (m1 + 1) c5)) := (((hb4.setCell (p := ⟨w.heap.size, 0, none⟩) (Nat.le_refl _) _).alloc (by rw [size_set]; exact hb4.size) _).trans (hg5.b.mono (by omega))).setCell (Nat.le_refl _) _
        have kh6 : (w5.setCell ⟨w.heap.size, 1, none⟩ (.slice A5 (m1 + 1) c5)).heap[w.heap.size]? = some (.cells #[.slice (some ⟨g, 0, none⟩) (n1 - 1) c1, .slice A5 (m1 + 1) c5] 24 (0, 0)) := heap_set_near _ _ _ _ _ _ kh5
        have kh6r := (heap_set_far w5 w.heap.size 1 (w.heap.size + 1) (.slice A5 (m1 + 1) c5) (by omega)).trans kh5r
        have kh6j := (heap_set_far w5 w.heap.size 1 (w.heap.size + 2) (.slice A5 (m1 + 1) c5) (by omega)).trans kh5j
        have kh6t := (heap_set_far w5 w.heap.size 1 w3.heap.size (.slice A5 (m1 + 1) c5) (by omega)).trans kh5t
        generalize w5.setCell ⟨w.heap.size, 1, none⟩ (.slice A5 (m1 + 1) c5) = w6 at hs6 ho6 hb6 kh6 kh6r kh6j kh6t ⊢
        have kc6 := Blk.cell kh6
        have kc6r := Blk.cell kh6r
        have kc6j := Blk.cell kh6j
        have kc6t := Blk.cell kh6t
        have kf6r := Blk.frozen kh6r
        have kf6j := Blk.frozen kh6j
        have hne2 : w3.heap.size ≠ w.heap.size + 1 := by omega
        have hne3 : w3.heap.size ≠ w.heap.size + 2 := by omega
        clear hs5 ho5 hg5 ho4 hg4 hs4 hb4 kh4 kh4r kh4j kh4t kc4 kf4 kc4t kh5 kh5r kh5j kh5t kc5 kf5 kh6 kh6r kh6j kh6t ka2 ka2r ka2j ka2t hbA hs2c HDE hlitf q1 q2 q3 q4 kc3 kf3 kh3 kc3r kf3r kh3r kc3j kf3j kh3j
        go_region
        go_wp2
        refine bodyPost_ret (v := .tuple #[.agg #[.slice (some ⟨g, 0, none⟩) (n1 - 1) c1, .slice A5 (m1 + 1) c5], .agg #[.int .i64 st, .string us, .int .i64 sp, .string nm], .bool true]) ?_ rfl ⟨some ⟨g, 0, none⟩, n1 - 1, c1, A5, m1 + 1, c5, ?_, ?_, ?_, ?_⟩
        · simp [results, Tryd.results18, go_sem, kc6r, kc6j]
        · rw [HSS.out.2.2.1, HSS.out.2.2.2]; rfl
        · rw [HSS.out.1]; (refine OwR.rd (base := w.heap.size + 3) (e := 28) ?_; (repeat (first | (with_reducible refine OwR.drewX ?_) | (with_reducible refine OwR.setX ?_ (?hlt : _ < _) _; case hlt => (dsimp only; omega)))); exact hs6)
        · rw [HSS.out.2.1]; (refine OwR.rd (base := w.heap.size + 3) (e := 28) ?_; (repeat (first | (with_reducible refine OwR.drewX ?_) | (with_reducible refine OwR.setX ?_ (?hlt : _ < _) _; case hlt => (dsimp only; omega)))); exact ho6)
        · (refine bel_out ?_; (focus (repeat' first | (with_reducible refine bel_refl ?_) | with_reducible assumption | with_reducible refine bel_drew ?_ | with_reducible refine bel_drewN _ ?_ | with_reducible refine bel_alloc _ ?_ | with_reducible refine bel_set ?_ _ ?_ | (with_reducible apply bel_call; with_reducible assumption) | (with_reducible apply bel_owg; with_reducible assumption; (focus omega)) | with_reducible exact Nat.le_refl _ | omega | (simp; done) | (simp; omega))))
  · have hrd : decide (r < 0) = false := decide_eq_false hr0
    rw [if_pos (by omega)] at HTK
    obtain ⟨i, rfl⟩ := Int.eq_ofNat_of_zero_le (by omega : 0 ≤ r)
    have HSS := Lib.hid (HS.out i (by rw [HTK.out]; simp))
    have him : i < n1 := by rw [hlL.out]; exact hlt.out i (by rw [HTK.out]; simp)
    have hmx : max (i : Int) 0 = (i : Int) := by omega
    clear HTK HN HS hlt
    obtain ⟨g, rfl, hg1, hg2⟩ := OwJ.block hs1' (by omega)
    obtain ⟨q1, q2, q3, q4⟩ := OwJ.cellsAt hs1' him
    have z0 : (0 : Int) ≤ (i : Int) := by omega
    have z1 : (i : Int) < (n1 : Int) := by omega
    generalize L.getD i jb0 = jj at *
    obtain ⟨st, us, sp, nm⟩ := jj
    simp only [] at q1 q2 q3 q4
    have HDE := Lib.hid (delete_jobI g n1 c1 i (i : Int) ((i : Int) + 1) L (w.heap.size + 3) (w2.alloc (.cells #[.int .i64 st, .string us, .int .i64 sp, .string nm] 28)) (hs1'.call RJ.stay ((Below.refl _ _).alloc (Nat.le_refl _) _)) him rfl rfl)
    have hs2a : OwR RJ 4 (w2.alloc (.cells #[.int .i64 st, .string us, .int .i64 sp, .string nm] 28)) (w.heap.size + 3) 28 B1 m1 d1 M := hs2'.call RJ.stay ((Below.refl _ _).alloc (Nat.le_refl _) _)
    have hBne : B1.map (·.block) ≠ some w2.heap.size := fun e => by have := (OwJ.lt hs2' _ e).2; omega
    have hBg : B1.map (·.block) ≠ some g := fun e => hne1 g rfl e
    have ka2 : (w2.alloc (.cells #[.int .i64 st, .string us, .int .i64 sp, .string nm] 28)).heap[w.heap.size]? = some (.cells #[.slice (some ⟨g, 0, none⟩) n1 c1, .slice B1 m1 d1] 24 (0, 0)) := heap_old kh2
    have ka2r : (w2.alloc (.cells #[.int .i64 st, .string us, .int .i64 sp, .string nm] 28)).heap[w.heap.size + 1]? = some (.cells #[.slice none 0 0, .slice none 0 0] 24 (0, 0)) := heap_old kh2r
    have ka2j : (w2.alloc (.cells #[.int .i64 st, .string us, .int .i64 sp, .string nm] 28)).heap[w.heap.size + 2]? = some (.cells #[.int .i64 0, .string ⟨#[]⟩, .int .i64 0, .string ⟨#[]⟩] 28 (0, 0)) := heap_old kh2j
    have ka2t : (w2.alloc (.cells #[.int .i64 st, .string us, .int .i64 sp, .string nm] 28)).heap[w2.heap.size]? = some (.cells #[.int .i64 st, .string us, .int .i64 sp, .string nm] 28 (0, 0)) := heap_new rfl
    have hbA : Below w.heap.size w (w2.alloc (.cells #[.int .i64 st, .string us, .int .i64 sp, .string nm] 28)) := hb02.alloc hb02z _
    have hlitf := Lib.hid (fun W => RdJ.lit (w := W) (t := 0) ⟨st, us, sp, nm⟩)
    go_wp2_with (first
      | (go_at_call 40; go_must (refine HDE.out.mono ?_; rintro e w4 ⟨rfl, ho4, hg4⟩; (have kh4 := blk_grown ka2 hg4 (by omega)); (have kh4r := blk_grown ka2r hg4 (by omega)); (have kh4j := blk_grown ka2j hg4 (by omega)); (have kh4t := blk_grown ka2t hg4 (by omega)); (have hs4 := OwJ.grown hs2a hg4 hBg); (have hb4 := below_grown hbA (by simp; omega) hg4 (by omega)); (have hz4 := hg4.size); (have kc4 := Blk.cell kh4); (have kf4 := Blk.frozen kh4); (have kc4t := Blk.cell kh4t)))
      | (at_builtin; go_must (refine wpList_append_r _ rfl (.tmp 42) (.tmp 44) 22 rfl 4 48 (w.heap.size + 3) 28 i0 _ RJ.stay (by decide) Tryd.underlying22 hi0 hz0 hz1 hz2 rfl (by omega) B1 m1 d1 M rfl ((OwR.setX hs4 (by show w.heap.size < _; omega) _).call RJ.stay ((Below.refl _ _).alloc (Nat.le_refl _) _)) _ 1 1 rfl [⟨st, us, sp, nm⟩] _ (Reads.litAt (cs := #[.int .i64 st, .string us, .int .i64 sp, .string nm]) (by rw [size_set]) rfl) (hlitf.out _) rfl ?_ ?_ ?_ ?_ ?_; (focus (simp [Value.oneCell'])); (focus (unfold maxLen; omega)); (focus omega); (focus (simp; simp at hz4; omega)); intro A5 c5 w5 ho5 hg5; (have kh5 : w5.heap[w.heap.size]? = some (.cells #[.slice (some ⟨g, 0, none⟩) (n1 - 1) c1, .slice B1 m1 d1] 24 (0, 0)) := (hg5.b.block _ (by omega)).trans (heap_old (heap_set_near _ _ _ _ _ _ kh4))); (have kh5r : w5.heap[w.heap.size + 1]? = _ := (hg5.b.block _ (by omega)).trans (heap_old ((heap_set_far _ _ _ _ _ (by omega)).trans kh4r))); (have kh5j : w5.heap[w.heap.size + 2]? = _ := (hg5.b.block _ (by omega)).trans (heap_old ((heap_set_far _ _ _ _ _ (by omega)).trans kh4j))); (have kh5t : w5.heap[w2.heap.size]? = _ := OwG.heap hg5 hBne (heap_old ((heap_set_far _ _ _ _ _ (by omega)).trans kh4t))); (have kc5 := Blk.cell kh5); (have kf5 := Blk.frozen kh5))))
    have hs5 : OwR RJ 4 w5 (w.heap.size + 3) 28 (some ⟨g, 0, none⟩) (n1 - 1) c1 (L.eraseIdx i) := OwJ.grownB ((OwR.setX ho4 (by show w.heap.size < _; omega) _).call RJ.stay ((Below.refl _ _).alloc (Nat.le_refl _) _)) hg5 hne1.symm
    have hs6 := OwR.setX (p := ⟨w.heap.size, 1, none⟩) hs5 (by show w.heap.size < _; omega) (.slice A5 (m1 + 1) c5)
    have ho6 := OwR.setX (p := ⟨w.heap.size, 1, none⟩) ho5 (by show w.heap.size < _; omega) (.slice A5 (m1 + 1) c5)
    have hb6 : Below w.heap.size w (w5.setCell ⟨w.heap.size, 1, none⟩ (.slice A5 (m1 + 1) c5)) := (((hb4.setCell (p := ⟨w.heap.size, 0, none⟩) (Nat.le_refl _) _).alloc (by rw [size_set]; exact hb4.size) _).trans (hg5.b.mono (by omega))).setCell (Nat.le_refl _) _
    have kh6 : (w5.setCell ⟨w.heap.size, 1, none⟩ (.slice A5 (m1 + 1) c5)).heap[w.heap.size]? = some (.cells #[.slice (some ⟨g, 0, none⟩) (n1 - 1) c1, .slice A5 (m1 + 1) c5] 24 (0, 0)) := heap_set_near _ _ _ _ _ _ kh5
    have kh6r := (heap_set_far w5 w.heap.size 1 (w.heap.size + 1) (.slice A5 (m1 + 1) c5) (by omega)).trans kh5r
    have kh6j := (heap_set_far w5 w.heap.size 1 (w.heap.size + 2) (.slice A5 (m1 + 1) c5) (by omega)).trans kh5j
    have kh6t := (heap_set_far w5 w.heap.size 1 w2.heap.size (.slice A5 (m1 + 1) c5) (by omega)).trans kh5t
    generalize w5.setCell ⟨w.heap.size, 1, none⟩ (.slice A5 (m1 + 1) c5) = w6 at hs6 ho6 hb6 kh6 kh6r kh6j kh6t ⊢
    have kc6 := Blk.cell kh6
    have kc6r := Blk.cell kh6r
    have kc6j := Blk.cell kh6j
    have kc6t := Blk.cell kh6t
    have kf6r := Blk.frozen kh6r
    have kf6j := Blk.frozen kh6j
    have hne2 : w2.heap.size ≠ w.heap.size + 1 := by omega
    have hne3 : w2.heap.size ≠ w.heap.size + 2 := by omega
    clear hs5 ho5 hg5 ho4 hg4 hs4 hb4 kh4 kh4r kh4j kh4t kc4 kf4 kc4t kh5 kh5r kh5j kh5t kc5 kf5 kh6 kh6r kh6j kh6t ka2 ka2r ka2j ka2t hbA hs2a HDE hlitf q1 q2 q3 q4 kc2 kf2 kh2 kc2r kf2r kh2r kc2j kf2j kh2j
    go_region
    go_wp2
    refine bodyPost_ret (v := .tuple #[.agg #[.slice (some ⟨g, 0, none⟩) (n1 - 1) c1, .slice A5 (m1 + 1) c5], .agg #[.int .i64 st, .string us, .int .i64 sp, .string nm], .bool true]) ?_ rfl ⟨some ⟨g, 0, none⟩, n1 - 1, c1, A5, m1 + 1, c5, ?_, ?_, ?_, ?_⟩
    · simp [results, Tryd.results18, go_sem, kc6r, kc6j]
    · rw [HSS.out.2.2.1, HSS.out.2.2.2]; rfl
    · rw [HSS.out.1]; (refine OwR.rd (base := w.heap.size + 3) (e := 28) ?_; (repeat (first | (with_reducible refine OwR.drewX ?_) | (with_reducible refine OwR.setX ?_ (?hlt : _ < _) _; case hlt => (dsimp only; omega)))); exact hs6)
    · rw [HSS.out.2.1]; (refine OwR.rd (base := w.heap.size + 3) (e := 28) ?_; (repeat (first | (with_reducible refine OwR.drewX ?_) | (with_reducible refine OwR.setX ?_ (?hlt : _ < _) _; case hlt => (dsimp only; omega)))); exact ho6)
    · (refine bel_out ?_; (focus (repeat' first | (with_reducible refine bel_refl ?_) | with_reducible assumption | with_reducible refine bel_drew ?_ | with_reducible refine bel_drewN _ ?_ | with_reducible refine bel_alloc _ ?_ | with_reducible refine bel_set ?_ _ ?_ | (with_reducible apply bel_call; with_reducible assumption) | (with_reducible apply bel_owg; with_reducible assumption; (focus omega)) | with_reducible exact Nat.le_refl _ | omega | (simp; done) | (simp; omega))))
end Go.Proofs.YtobgnncdldfkkaaDoor
