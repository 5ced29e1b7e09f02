/- What is read of frames that follow one another; the walk of the law JournalGrows. -/
import Derived.Test.YtaagmiidapammaaJ14
namespace Go.Proofs.Ytaagmiidapammaa
open Go.RowKit
set_option linter.unusedSimpArgs false
set_option linter.unusedVariables false

theorem scan_fuel (f g : Nat) (b : List UInt8) (q : Int) (hf : b.length < f) (hg : b.length < g) : scan f b q = scan g b q := by
  induction f generalizing g b q with
  | zero => omega
  | succ f ih =>
    cases g with
    | zero => omega
    | succ g =>
      rw [scan, scan]
      by_cases h : nxE b = 0 ∧ (nxS b : Int) = q
      · obtain ⟨k1, k2, k3, -, -⟩ := nx_ok h.1
        have hN : nxN b = 16 + nLen b := by rw [nxN, if_pos h.1]
        rw [if_pos h, if_pos h, ih g (b.drop (nxN b)) (q + 1) (by rw [List.length_drop]; omega) (by rw [List.length_drop]; omega)]
      · rw [if_neg h, if_neg h]
def scn (b : List UInt8) (q : Int) : List (Nat × List UInt8) × Nat := scan (b.length + 1) b q
theorem scn_yes {b : List UInt8} {q : Int} (h1 : nxE b = 0) (h2 : (nxS b : Int) = q) : scn b q = ((nxS b, nxD b) :: (scn (b.drop (nxN b)) (q + 1)).1, nxN b + (scn (b.drop (nxN b)) (q + 1)).2) := by
  obtain ⟨k1, k2, k3, -, -⟩ := nx_ok h1
  have hN : nxN b = 16 + nLen b := by rw [nxN, if_pos h1]
  unfold scn
  rw [scan, if_pos ⟨h1, h2⟩, scan_fuel b.length ((b.drop (nxN b)).length + 1) _ _ (by rw [List.length_drop]; omega) (by omega)]
theorem scn_no {b : List UInt8} {q : Int} (h : ¬ (nxE b = 0 ∧ (nxS b : Int) = q)) : scn b q = ([], 0) := by
  unfold scn
  rw [scan, if_neg h]
theorem opP_scn (l : List UInt8) : opP l = (scn l 1).2 := rfl
theorem opR_scn (l : List UInt8) : opR l = (scn l 1).1 := rfl

/-- data with their numbers -/
def recs : List (List UInt8) → Nat → List (Nat × List UInt8)
  | [], _ => []
  | d :: t, s => (s, d) :: recs t (s + 1)
theorem recs_length (L : List (List UInt8)) (s : Nat) : (recs L s).length = L.length := by
  induction L generalizing s with
  | nil => rfl
  | cons d t ih => simp [recs, ih]
theorem recs_get (L : List (List UInt8)) (s k : Nat) : (recs L s)[k]? = (L[k]?).map fun d => (s + k, d) := by
  induction L generalizing s k with
  | nil => simp [recs]
  | cons d t ih =>
    cases k with
    | zero => simp [recs]
    | succ k =>
      simp only [recs, List.getElem?_cons_succ, ih]
      congr 1
      funext d
      congr 1
      omega
theorem scn_frames (L : List (List UInt8)) (s : Nat) (r : List UInt8) (h : ∀ d ∈ L, d.length ≤ 65536) (h1 : 1 ≤ s) (h2 : s + L.length ≤ 1073741825) :
    scn (framesP L s ++ r) s = (recs L s ++ (scn r ((s + L.length : Nat) : Int)).1, (framesP L s).length + (scn r ((s + L.length : Nat) : Int)).2) := by
  induction L generalizing s with
  | nil => simp [framesP, recs]
  | cons d t ih =>
    have hd := h d List.mem_cons_self
    rw [List.length_cons] at h2
    obtain ⟨e1, e2, e3, e4⟩ := nx_frame s d (framesP t (s + 1) ++ r) h1 (by omega) hd
    have hi := ih (s + 1) (fun d hd => h d (List.mem_cons_of_mem _ hd)) (by omega) (by omega)
    rw [framesP, List.append_assoc, scn_yes e1 (by rw [e3]), e2, e3, e4]
    have hdrop : (frameB s d ++ (framesP t (s + 1) ++ r)).drop (16 + d.length) = framesP t (s + 1) ++ r := List.drop_left' (frameB_length s d)
    rw [hdrop, show ((s : Int) + 1) = ((s + 1 : Nat) : Int) by omega, hi, List.length_append, frameB_length, List.length_cons]
    rw [show s + 1 + t.length = s + (t.length + 1) by omega]
    simp [recs, Nat.add_assoc]
theorem scn_nil (q : Int) : scn [] q = ([], 0) := scn_no (by rintro ⟨h, _⟩; revert h; decide)
theorem few_small {L : List (List UInt8)} (h : fewB L = true) : ∀ d ∈ L, d.length ≤ 200 := by
  simp [fewB] at h
  exact h.2

theorem grow_x {L : List (List UInt8)} {d : List UInt8} (h : fewB L = true) (hd : d.length ≤ 300) :
    (scn (framesP L 1 ++ frameB (L.length + 1) d) 1) = (recs (L ++ [d]) 1, (framesP L 1 ++ frameB (L.length + 1) d).length) := by
  have hl := (fewB_le h).1
  have e : framesP L 1 ++ frameB (L.length + 1) d = framesP (L ++ [d]) 1 ++ [] := by rw [framesP_snoc, List.append_nil, Nat.add_comm]
  rw [e]
  have h3 := scn_frames (L ++ [d]) 1 [] (fun x hx => by
    rcases List.mem_append.1 hx with h4 | h4
    · have := few_small h x h4; omega
    · rw [List.mem_singleton.1 h4]; omega) (by omega) (by rw [List.length_append, List.length_singleton]; omega)
  rw [show ((1 : Nat) : Int) = 1 from rfl, scn_nil] at h3
  rw [h3]
  simp
theorem grow_y {L : List (List UInt8)} {d : List UInt8} (K : Nat) (hK : K < 90) (h : fewB L = true) (hd : d.length ≤ 300) :
    (scn (framesP L 1 ++ frameB (L.length + 2 + K) d) 1) = (recs L 1, (framesP L 1).length) := by
  have hl := (fewB_le h).1
  have h3 := scn_frames L 1 (frameB (L.length + 2 + K) d) (fun x hx => by have := few_small h x hx; omega) (by omega) (by omega)
  have e0 : frameB (L.length + 2 + K) d = frameB (L.length + 2 + K) d ++ [] := by rw [List.append_nil]
  obtain ⟨e1, e2, e3, e4⟩ := nx_frame (L.length + 2 + K) d [] (by omega) (by omega) (by omega)
  rw [← e0] at e1 e3
  rw [scn_no (b := frameB (L.length + 2 + K) d) (by rintro ⟨-, h5⟩; rw [e3] at h5; omega)] at h3
  rw [show ((1 : Nat) : Int) = 1 from rfl] at h3
  rw [h3]
  simp

theorem append_okI (A : Option Addr) (n c : Nat) (l : List UInt8) (Q : Int) (q : Nat) (hQ : Q = (q : Int)) (B : Option Addr) (m cb : Nat) (d : List UInt8) (w : World) (hr : RdB w A n c l) (hrb : RdB w B m cb d)
    (h1 : 1 ≤ q) (h2 : q ≤ 1073741824) (hn : n ≤ 5000) (hm : m ≤ 300) :
    Calls Try.prog 26 #[.agg #[.slice A n c, .int .i64 0], .agg #[.int .i64 Q, .slice B m cb]] w (ROVE w (l ++ frameB q d) 0 0) := by
  subst hQ
  have h := append_own A n c l 0 (q : Int) B m cb d w hr hrb
  have l1 := hr.len
  have l2 := hrb.len
  have hs : seqB (q : Int) = true := by simp [seqB]; omega
  have hfe : frE (q : Int) d = 0 := by simp [frE, hs, ← l2]; omega
  have hfl : frL (q : Int) d = frameB q d := by simp [frL, hs, ← l2]; omega
  have hv : validB l.length 0 = true := by simp [validB]; omega
  have ht : tooB l.length (frameB q d).length = false := by rw [frameB_length]; simp [tooB]; omega
  have e1 : apL l 0 (q : Int) d = l ++ frameB q d := by simp [apL, hfe, hfl, wrL, hv, ht]
  have e2 : apS l 0 (q : Int) d = 0 := by simp [apS, hfe, hfl, wrS, hv, ht]
  have e3 : apE l 0 (q : Int) d = 0 := by simp [apE, hfe, hfl, wrE, hv, ht]
  rw [e1, e2, e3] at h
  exact h
theorem open_okI (A : Option Addr) (n c : Nat) (l lo : List UInt8) (k : Nat) (w : World) (hr : RdB w A n c l) (hn : n ≤ 10000) (ho : l.take (opP l) = lo) (hk : (opR l).length = k) :
    Calls Try.prog 24 #[.agg #[.slice A n c, .int .i64 0]] w (Ret w fun v w' => ∃ A n c s A2 c2, v = .tuple #[.agg #[.slice A n c, .int .i64 s], .slice A2 k c2] ∧ RdB w' A n c lo) := by
  refine (open_yes A n c l 0 w hr (by simp [validB]; omega)).mono ?_
  rintro e w' ⟨v, rfl, ⟨A1, n1, c1, A2, n2, c2, rfl, h1, h2⟩, hb⟩
  rw [ho] at h1
  have : n2 = k := h2.len.trans hk
  subst this
  exact ⟨_, rfl, ⟨A1, n1, c1, _, A2, c2, rfl, h1⟩, hb⟩

set_option maxRecDepth 100000 in
set_option maxHeartbeats 3200000 in
theorem grows_walk (C : Option Addr) (mc cc : Nat) (L : List (List UInt8)) (B : Option Addr) (m cb : Nat) (d : List UInt8) (other : Int) (w : World) (hrl : RdBB w C mc cc L) (hrb : RdB w B m cb d) :
    Calls Try.prog 10 #[.slice C mc cc, .slice B m cb, .int .i64 other] w fun e w' => e = .returned (.bool true) ∧ Below w.heap.size w w' := by
  have hA := Lib.hid (awake_law w)
  cases hfew : fewB L with
  | false =>
    go_enter Try.func10, Try.ntmps10
    go_wp2_with (first | (go_at_call 20; go_must ((refine (few_any C mc cc L _ ?_).mono ?_); (focus (refine RdBB.below hrl ?_; (refine bel_out ?_; (focus (repeat' first | (with_reducible refine bel_refl ?_) | with_reducible assumption | with_reducible refine bel_drew ?_ | with_reducible refine bel_drewN _ ?_ | with_reducible refine bel_alloc _ ?_ | with_reducible refine bel_set ?_ _ ?_ | (with_reducible apply bel_call; with_reducible assumption) | (with_reducible apply bel_owg; with_reducible assumption; (focus omega)) | with_reducible exact Nat.le_refl _ | omega | (simp; done) | (simp; omega)))))); rintro e W1 ⟨rfl, rfl⟩)) | (go_at_call 11; refine (hA.out _ ?_).mono ?_; (refine bel_out ?_; (focus (repeat' first | (with_reducible refine bel_refl ?_) | with_reducible assumption | with_reducible refine bel_drew ?_ | with_reducible refine bel_drewN _ ?_ | with_reducible refine bel_alloc _ ?_ | with_reducible refine bel_set ?_ _ ?_ | (with_reducible apply bel_call; with_reducible assumption) | (with_reducible apply bel_owg; with_reducible assumption; (focus omega)) | with_reducible exact Nat.le_refl _ | omega | (simp; done) | (simp; omega)))); rintro e w9 ⟨rfl, hb9⟩))
    go_ret
    exact ⟨rfl, by (refine bel_out ?_; (focus (repeat' first | (with_reducible refine bel_refl ?_) | with_reducible assumption | with_reducible refine bel_drew ?_ | with_reducible refine bel_drewN _ ?_ | with_reducible refine bel_alloc _ ?_ | with_reducible refine bel_set ?_ _ ?_ | (with_reducible apply bel_call; with_reducible assumption) | (with_reducible apply bel_owg; with_reducible assumption; (focus omega)) | with_reducible exact Nat.le_refl _ | omega | (simp; done) | (simp; omega))))⟩
  | true =>
    by_cases hm : 300 < m
    · go_enter Try.func10, Try.ntmps10
      go_wp2_with (first | (go_at_call 20; go_must ((refine (few_any C mc cc L _ ?_).mono ?_); (focus (refine RdBB.below hrl ?_; (refine bel_out ?_; (focus (repeat' first | (with_reducible refine bel_refl ?_) | with_reducible assumption | with_reducible refine bel_drew ?_ | with_reducible refine bel_drewN _ ?_ | with_reducible refine bel_alloc _ ?_ | with_reducible refine bel_set ?_ _ ?_ | (with_reducible apply bel_call; with_reducible assumption) | (with_reducible apply bel_owg; with_reducible assumption; (focus omega)) | with_reducible exact Nat.le_refl _ | omega | (simp; done) | (simp; omega)))))); rintro e W1 ⟨rfl, rfl⟩)) | (go_at_call 11; refine (hA.out _ ?_).mono ?_; (refine bel_out ?_; (focus (repeat' first | (with_reducible refine bel_refl ?_) | with_reducible assumption | with_reducible refine bel_drew ?_ | with_reducible refine bel_drewN _ ?_ | with_reducible refine bel_alloc _ ?_ | with_reducible refine bel_set ?_ _ ?_ | (with_reducible apply bel_call; with_reducible assumption) | (with_reducible apply bel_owg; with_reducible assumption; (focus omega)) | with_reducible exact Nat.le_refl _ | omega | (simp; done) | (simp; omega)))); rintro e w9 ⟨rfl, hb9⟩))
      go_ret
      exact ⟨rfl, by (refine bel_out ?_; (focus (repeat' first | (with_reducible refine bel_refl ?_) | with_reducible assumption | with_reducible refine bel_drew ?_ | with_reducible refine bel_drewN _ ?_ | with_reducible refine bel_alloc _ ?_ | with_reducible refine bel_set ?_ _ ?_ | (with_reducible apply bel_call; with_reducible assumption) | (with_reducible apply bel_owg; with_reducible assumption; (focus omega)) | with_reducible exact Nat.le_refl _ | omega | (simp; done) | (simp; omega))))⟩
    · have HW := Lib.hid hfew
      have hX := framesP_few hfew 1 L.length
      rw [List.take_length] at hX
      have hmc : mc ≤ 20 := by have := (fewB_le hfew).1; have := hrl.len; omega
      have hdl : d.length ≤ 300 := by have := hrb.len; omega
      obtain ⟨K, hK, -, hR⟩ := round_natJ other 90 90 rfl (by omega) (by omega)
      have HR := Lib.hid hR
      have hgx := grow_x (d := d) hfew hdl
      have hgy := grow_y (d := d) K hK hfew hdl
      have HLm := Lib.hid hrl.len
      have hX1 : (opR (framesP L 1 ++ frameB (L.length + 1) d)).length = mc + 1 := by rw [opR_scn, hgx]; show (recs _ _).length = _; rw [recs_length, List.length_append, List.length_singleton, ← HLm.out]
      have hX2 : (framesP L 1 ++ frameB (L.length + 1) d).take (opP (framesP L 1 ++ frameB (L.length + 1) d)) = framesP L 1 ++ frameB (L.length + 1) d := by rw [opP_scn, hgx]; exact List.take_length
      have hY1 : (opR (framesP L 1 ++ frameB (L.length + 2 + K) d)).length = mc := by rw [opR_scn, hgy]; show (recs _ _).length = _; rw [recs_length, ← HLm.out]
      have hY2 : (framesP L 1 ++ frameB (L.length + 2 + K) d).take (opP (framesP L 1 ++ frameB (L.length + 2 + K) d)) = framesP L 1 := by rw [opP_scn, hgy]; exact List.take_left' rfl
      have hXl : (framesP L 1 ++ frameB (L.length + 1) d).length ≤ 10000 := by rw [List.length_append, frameB_length]; omega
      have hYl : (framesP L 1 ++ frameB (L.length + 2 + K) d).length ≤ 10000 := by rw [List.length_append, frameB_length]; omega
      have HX1 := Lib.hid hX1
      have HX2 := Lib.hid hX2
      have HY1 := Lib.hid hY1
      have HY2 := Lib.hid hY2
      rw [← HLm.out] at HX1 HX2 HY1 HY2 hXl hYl
      have hK90 : (K : Int) < 90 := by omega
      clear hgx hgy hX1 hX2 hY1 hY2 hR
      generalize hXX : framesP L 1 = X at *
      have HXX := Lib.hid hXX
      clear hXX
      go_enter Try.func10, Try.ntmps10
      go_wp2_with (first
        | (go_at_call 20; go_must ((refine (few_any C mc cc L _ ?_).mono ?_); (focus (refine RdBB.below hrl ?_; (refine bel_out ?_; (focus (repeat' first | (with_reducible refine bel_refl ?_) | with_reducible assumption | with_reducible refine bel_drew ?_ | with_reducible refine bel_drewN _ ?_ | with_reducible refine bel_alloc _ ?_ | with_reducible refine bel_set ?_ _ ?_ | (with_reducible apply bel_call; with_reducible assumption) | (with_reducible apply bel_owg; with_reducible assumption; (focus omega)) | with_reducible exact Nat.le_refl _ | omega | (simp; done) | (simp; omega)))))); rintro e W1 ⟨rfl, rfl⟩))
        | (go_at_call 21; go_must ((with_reducible refine (frames_any C mc cc L 1 1 rfl _ ?_ HW.out ?_ ?_).mono ?_); (focus (refine RdBB.below hrl ?_; (refine bel_out ?_; (focus (repeat' first | (with_reducible refine bel_refl ?_) | with_reducible assumption | with_reducible refine bel_drew ?_ | with_reducible refine bel_drewN _ ?_ | with_reducible refine bel_alloc _ ?_ | with_reducible refine bel_set ?_ _ ?_ | (with_reducible apply bel_call; with_reducible assumption) | (with_reducible apply bel_owg; with_reducible assumption; (focus omega)) | with_reducible exact Nat.le_refl _ | omega | (simp; done) | (simp; omega)))))); (focus omega); (focus omega); rintro e w1 ⟨v1, rfl, ⟨A1, n1, c1, rfl, ho1⟩, hb1⟩; rw [HXX.out] at ho1; (have hn1 : n1 ≤ 4320 := (by rw [ho1.len]; exact hX))))
        | (go_at_call 26; go_must ((with_reducible refine (append_okI A1 n1 c1 X ((mc : Int) + 1) (mc + 1) rfl B m cb d _ ?_ ?_ ?_ ?_ ?_ ?_).mono ?_); (focus (apply OwB.rd; (focus (repeat' first | with_reducible assumption | (with_reducible apply OwB.drew) | (with_reducible apply OwB.drewN) | (with_reducible apply OwB.alloc) | (with_reducible apply OwB.stored) | (with_reducible apply OwB.set) | (with_reducible apply OwB.call; with_reducible assumption) | omega | (simp; done) | (simp; omega))))); (focus (refine RdB.below hrb ?_; (refine bel_out ?_; (focus (repeat' first | (with_reducible refine bel_refl ?_) | with_reducible assumption | with_reducible refine bel_drew ?_ | with_reducible refine bel_drewN _ ?_ | with_reducible refine bel_alloc _ ?_ | with_reducible refine bel_set ?_ _ ?_ | (with_reducible apply bel_call; with_reducible assumption) | (with_reducible apply bel_owg; with_reducible assumption; (focus omega)) | with_reducible exact Nat.le_refl _ | omega | (simp; done) | (simp; omega)))))); (focus omega); (focus omega); (focus omega); (focus omega); rintro e w2 ⟨v2, rfl, ⟨A2, n2, c2, rfl, ho2⟩, hb2⟩; have hr2 := ho2.rd; obtain ⟨kc2, kf2, kz2, kh2⟩ := blk_cells hb2 (g := w1.heap.size) (t := 47) (cs := #[.slice A1 n1 c1, .int .i64 0]) (by (focus (repeat' first | with_reducible assumption | (with_reducible refine heap_drew ?_) | (with_reducible refine heap_drewN ?_) | (with_reducible refine heap_new ?_; focus (first | rfl | omega | (simp; done))) | (with_reducible refine heap_old ?_) | (with_reducible apply heap_near') | ((with_reducible show Array.setIfInBounds _ _ _ = _); rfl) | (with_reducible refine heap_far ?_ ?_; focus (first | omega | (simp; omega) | (simp; done))) | (with_reducible apply heap_grown; with_reducible assumption; (focus (first | omega | (simp; omega)))) | (with_reducible apply heap_call; with_reducible assumption)))))))
      have HK : Hid (∀ W : World, Bel (w2.heap.size + 1) (w2.alloc (.cells #[.slice A2 n2 c2, .int .i64 0] 47)) W → W.cell? ⟨w1.heap.size, 0, none⟩ = some (.slice A1 n1 c1) ∧ W.cell? ⟨w1.heap.size, 1, none⟩ = some (.int .i64 0)) := by
        intro W hW
        exact ⟨(hW.2.cell (p := ⟨w1.heap.size, 0, none⟩) (by show w1.heap.size < _; omega)).trans ((World.cell?_alloc_lt w2 _ _ (by show w1.heap.size < _; omega)).trans (kc2 0)), (hW.2.cell (p := ⟨w1.heap.size, 1, none⟩) (by show w1.heap.size < _; omega)).trans ((World.cell?_alloc_lt w2 _ _ (by show w1.heap.size < _; omega)).trans (kc2 1))⟩
      have hw1 : IntKind.i64.wrap ((mc : Int) + 2) = (mc : Int) + 2 := by rw [IntKind.wrap_i64]; omega
      have hw2 : IntKind.i64.wrap ((mc : Int) + 2 + (K : Int)) = (mc : Int) + 2 + (K : Int) := by rw [IntKind.wrap_i64]; omega
      have HRq : Hid (∀ W : World, Calls Try.prog 17 #[.int .i64 other, .int .i64 90] W fun e w' => e = .returned (.int .i64 (K : Int)) ∧ w' = W) := fun W => (HR.out W).mono fun _ _ h => ⟨h.1, h.2.symm⟩
      obtain ⟨kp0, kp1⟩ := HK.out _ (bel_refl (by simp))
      have hbx : Below w2.heap.size w2 (w2.alloc (.cells #[.slice A2 n2 c2, .int .i64 0] 47)) := (Below.refl _ _).alloc (Nat.le_refl _) _
      have hhx : (w2.alloc (.cells #[.slice A2 n2 c2, .int .i64 0] 47)).heap[w2.heap.size]? = some (.cells #[.slice A2 n2 c2, .int .i64 0] 47 (0, 0)) := heap_new rfl
      have hh1 : (w2.alloc (.cells #[.slice A2 n2 c2, .int .i64 0] 47)).heap[w1.heap.size]? = some (.cells #[.slice A1 n1 c1, .int .i64 0] 47 (0, 0)) := by (focus (repeat' first | with_reducible assumption | (with_reducible refine heap_drew ?_) | (with_reducible refine heap_drewN ?_) | (with_reducible refine heap_new ?_; focus (first | rfl | omega | (simp; done))) | (with_reducible refine heap_old ?_) | (with_reducible apply heap_near') | ((with_reducible show Array.setIfInBounds _ _ _ = _); rfl) | (with_reducible refine heap_far ?_ ?_; focus (first | omega | (simp; omega) | (simp; done))) | (with_reducible apply heap_grown; with_reducible assumption; (focus (first | omega | (simp; omega)))) | (with_reducible apply heap_call; with_reducible assumption)))
      clear HK kc2 kf2 kh2
      generalize w2.alloc (.cells #[.slice A2 n2 c2, .int .i64 0] 47) = wx at hbx hhx hh1 kp0 kp1 ⊢
      have HK : Hid (∀ W : World, Bel wx.heap.size wx W → W.cell? ⟨w1.heap.size, 0, none⟩ = some (.slice A1 n1 c1) ∧ W.cell? ⟨w1.heap.size, 1, none⟩ = some (.int .i64 0)) := by
        intro W hW
        have hlt : w1.heap.size < wx.heap.size := Blk.lt hh1
        exact ⟨(hW.2.cell (p := ⟨w1.heap.size, 0, none⟩) hlt).trans kp0, (hW.2.cell (p := ⟨w1.heap.size, 1, none⟩) hlt).trans kp1⟩
      have hz1 : w.heap.size ≤ w1.heap.size := hb1.size
      have hq1 : w1.heap.size < wx.heap.size := Blk.lt hh1
      have hq2 : w2.heap.size < wx.heap.size := Blk.lt hhx
      have hne1 : w1.heap.size ≠ wx.heap.size := by omega
      have hne2 : w2.heap.size ≠ wx.heap.size := by omega
      go_region_held3 (fun W => W.cell? ⟨w1.heap.size, 0, none⟩ = some (.slice A1 n1 c1) ∧ W.cell? ⟨w1.heap.size, 1, none⟩ = some (.int .i64 0))
        ((refine HK.out _ ?_; (focus (repeat' first | (with_reducible refine bel_refl ?_) | with_reducible assumption | with_reducible refine bel_drew ?_ | with_reducible refine bel_drewN _ ?_ | with_reducible refine bel_alloc _ ?_ | with_reducible refine bel_set ?_ _ ?_ | (with_reducible apply bel_call; with_reducible assumption) | (with_reducible apply bel_owg; with_reducible assumption; (focus omega)) | with_reducible exact Nat.le_refl _ | omega | (simp; done) | (simp; omega))); done))
        (first
          | (go_at_call 17; go_must ((with_reducible refine (HR.out _).mono ?_); rintro e W1 ⟨rfl, rfl⟩))
          | (go_at_call 26; go_must ((with_reducible refine (append_okI A1 n1 c1 X ((mc : Int) + 2 + (K : Int)) (mc + 2 + K) (by omega) B m cb d _ ?_ ?_ ?_ ?_ ?_ ?_).mono ?_); (focus (refine RdB.below ho1.rd ?_; (refine bel_out ?_; (focus (repeat' first | (with_reducible refine bel_refl ?_) | with_reducible assumption | with_reducible refine bel_drew ?_ | with_reducible refine bel_drewN _ ?_ | with_reducible refine bel_alloc _ ?_ | with_reducible refine bel_set ?_ _ ?_ | (with_reducible apply bel_call; with_reducible assumption) | (with_reducible apply bel_owg; with_reducible assumption; (focus omega)) | with_reducible exact Nat.le_refl _ | omega | (simp; done) | (simp; omega)))))); (focus (refine RdB.below hrb ?_; (refine bel_out ?_; (focus (repeat' first | (with_reducible refine bel_refl ?_) | with_reducible assumption | with_reducible refine bel_drew ?_ | with_reducible refine bel_drewN _ ?_ | with_reducible refine bel_alloc _ ?_ | with_reducible refine bel_set ?_ _ ?_ | (with_reducible apply bel_call; with_reducible assumption) | (with_reducible apply bel_owg; with_reducible assumption; (focus omega)) | with_reducible exact Nat.le_refl _ | omega | (simp; done) | (simp; omega)))))); (focus omega); (focus omega); (focus omega); (focus omega); rintro e w3 ⟨v3, rfl, ⟨A3, n3, c3, rfl, ho3⟩, hb3⟩; obtain ⟨kc3, kf3, kz3, kh3⟩ := blk_cells hb3 (g := w1.heap.size) (t := 47) (cs := #[.slice A1 n1 c1, .int .i64 0]) (by (focus (repeat' first | with_reducible assumption | (with_reducible refine heap_drew ?_) | (with_reducible refine heap_drewN ?_) | (with_reducible refine heap_new ?_; focus (first | rfl | omega | (simp; done))) | (with_reducible refine heap_old ?_) | (with_reducible apply heap_near') | ((with_reducible show Array.setIfInBounds _ _ _ = _); rfl) | (with_reducible refine heap_far ?_ ?_; focus (first | omega | (simp; omega) | (simp; done))) | (with_reducible apply heap_grown; with_reducible assumption; (focus (first | omega | (simp; omega)))) | (with_reducible apply heap_call; with_reducible assumption)))); obtain ⟨kc3x, kf3x, kz3x, kh3x⟩ := blk_cells hb3 (g := w2.heap.size) (t := 47) (cs := #[.slice A2 n2 c2, .int .i64 0]) (by (focus (repeat' first | with_reducible assumption | (with_reducible refine heap_drew ?_) | (with_reducible refine heap_drewN ?_) | (with_reducible refine heap_new ?_; focus (first | rfl | omega | (simp; done))) | (with_reducible refine heap_old ?_) | (with_reducible apply heap_near') | ((with_reducible show Array.setIfInBounds _ _ _ = _); rfl) | (with_reducible refine heap_far ?_ ?_; focus (first | omega | (simp; omega) | (simp; done))) | (with_reducible apply heap_grown; with_reducible assumption; (focus (first | omega | (simp; omega)))) | (with_reducible apply heap_call; with_reducible assumption)))); (first | ((refine blk_do (g := wx.heap.size) (t := 47) (cs := #[.slice none 0 0, .int .i64 0]) hb3 ?_ ?_; (focus ((focus (repeat' first | with_reducible assumption | (with_reducible refine heap_drew ?_) | (with_reducible refine heap_drewN ?_) | (with_reducible refine heap_new ?_; focus (first | rfl | omega | (simp; done))) | (with_reducible refine heap_old ?_) | (with_reducible apply heap_near') | ((with_reducible show Array.setIfInBounds _ _ _ = _); rfl) | (with_reducible refine heap_far ?_ ?_; focus (first | omega | (simp; omega) | (simp; done))) | (with_reducible apply heap_grown; with_reducible assumption; (focus (first | omega | (simp; omega)))) | (with_reducible apply heap_call; with_reducible assumption))); done)); intro kc3z kf3z kz3z kh3z)) | skip))))
      all_goals
        go_wp2_with (first
          | (go_at_call 24; (with_reducible refine (open_okI A2 n2 c2 (X ++ frameB (mc + 1) d) (X ++ frameB (mc + 1) d) (mc + 1) _ ?_ ?_ HX2.out HX1.out).mono ?_); (focus (refine RdB.below hr2 ?_; (refine bel_out ?_; (focus (repeat' first | (with_reducible refine bel_refl ?_) | with_reducible assumption | with_reducible refine bel_drew ?_ | with_reducible refine bel_drewN _ ?_ | with_reducible refine bel_alloc _ ?_ | with_reducible refine bel_set ?_ _ ?_ | (with_reducible apply bel_call; with_reducible assumption) | (with_reducible apply bel_owg; with_reducible assumption; (focus omega)) | with_reducible exact Nat.le_refl _ | omega | (simp; done) | (simp; omega)))))); (focus (rw [hr2.len]; exact hXl)); rintro e w4 ⟨v4, rfl, ⟨A4, n4, c4, s4, A4', c4', rfl, hr4⟩, hb4⟩; obtain ⟨kc4, kf4, kz4, kh4⟩ := blk_cells hb4 (g := w1.heap.size) (t := 47) (cs := #[.slice A1 n1 c1, .int .i64 0]) (by (focus (repeat' first | with_reducible assumption | (with_reducible refine heap_drew ?_) | (with_reducible refine heap_drewN ?_) | (with_reducible refine heap_new ?_; focus (first | rfl | omega | (simp; done))) | (with_reducible refine heap_old ?_) | (with_reducible apply heap_near') | ((with_reducible show Array.setIfInBounds _ _ _ = _); rfl) | (with_reducible refine heap_far ?_ ?_; focus (first | omega | (simp; omega) | (simp; done))) | (with_reducible apply heap_grown; with_reducible assumption; (focus (first | omega | (simp; omega)))) | (with_reducible apply heap_call; with_reducible assumption)))); obtain ⟨kc4x, kf4x, kz4x, kh4x⟩ := blk_cells hb4 (g := w2.heap.size) (t := 47) (cs := #[.slice A2 n2 c2, .int .i64 0]) (by (focus (repeat' first | with_reducible assumption | (with_reducible refine heap_drew ?_) | (with_reducible refine heap_drewN ?_) | (with_reducible refine heap_new ?_; focus (first | rfl | omega | (simp; done))) | (with_reducible refine heap_old ?_) | (with_reducible apply heap_near') | ((with_reducible show Array.setIfInBounds _ _ _ = _); rfl) | (with_reducible refine heap_far ?_ ?_; focus (first | omega | (simp; omega) | (simp; done))) | (with_reducible apply heap_grown; with_reducible assumption; (focus (first | omega | (simp; omega)))) | (with_reducible apply heap_call; with_reducible assumption)))); (first | ((refine blk_do (g := w3.heap.size) (t := 47) (cs := #[.slice A3 n3 c3, .int .i64 0]) hb4 ?_ ?_; (focus ((focus (repeat' first | with_reducible assumption | (with_reducible refine heap_drew ?_) | (with_reducible refine heap_drewN ?_) | (with_reducible refine heap_new ?_; focus (first | rfl | omega | (simp; done))) | (with_reducible refine heap_old ?_) | (with_reducible apply heap_near') | ((with_reducible show Array.setIfInBounds _ _ _ = _); rfl) | (with_reducible refine heap_far ?_ ?_; focus (first | omega | (simp; omega) | (simp; done))) | (with_reducible apply heap_grown; with_reducible assumption; (focus (first | omega | (simp; omega)))) | (with_reducible apply heap_call; with_reducible assumption))); done)); intro kc4y kf4y kz4y kh4y)) | ((refine blk_do (g := wx.heap.size) (t := 47) (cs := #[.slice A3 n3 c3, .int .i64 0]) hb4 ?_ ?_; (focus ((focus (repeat' first | with_reducible assumption | (with_reducible refine heap_drew ?_) | (with_reducible refine heap_drewN ?_) | (with_reducible refine heap_new ?_; focus (first | rfl | omega | (simp; done))) | (with_reducible refine heap_old ?_) | (with_reducible apply heap_near') | ((with_reducible show Array.setIfInBounds _ _ _ = _); rfl) | (with_reducible refine heap_far ?_ ?_; focus (first | omega | (simp; omega) | (simp; done))) | (with_reducible apply heap_grown; with_reducible assumption; (focus (first | omega | (simp; omega)))) | (with_reducible apply heap_call; with_reducible assumption))); done)); intro kc4y kf4y kz4y kh4y))))
          | (go_at_call 24; go_must ((with_reducible refine (open_okI A3 n3 c3 (X ++ frameB (mc + 2 + K) d) X mc _ ?_ ?_ HY2.out HY1.out).mono ?_); (focus (first | (refine RdB.below ho3.rd ?_; (refine bel_out ?_; (focus (repeat' first | (with_reducible refine bel_refl ?_) | with_reducible assumption | with_reducible refine bel_drew ?_ | with_reducible refine bel_drewN _ ?_ | with_reducible refine bel_alloc _ ?_ | with_reducible refine bel_set ?_ _ ?_ | (with_reducible apply bel_call; with_reducible assumption) | (with_reducible apply bel_owg; with_reducible assumption; (focus omega)) | with_reducible exact Nat.le_refl _ | omega | (simp; done) | (simp; omega)))); done) | (refine (OwB.alloc _ (OwB.call hb4 (OwB.set (OwB.set ho3 ?_) ?_))).rd <;> (first | (simp; done) | (simp; omega))))); (focus (rw [ho3.len]; exact hYl)); rintro e w5 ⟨v5, rfl, ⟨A5, n5, c5, s5, A5', c5', rfl, hr5⟩, hb5⟩; obtain ⟨kc5, kf5, kz5, kh5⟩ := blk_cells hb5 (g := w1.heap.size) (t := 47) (cs := #[.slice A1 n1 c1, .int .i64 0]) (by (focus (repeat' first | with_reducible assumption | (with_reducible refine heap_drew ?_) | (with_reducible refine heap_drewN ?_) | (with_reducible refine heap_new ?_; focus (first | rfl | omega | (simp; done))) | (with_reducible refine heap_old ?_) | (with_reducible apply heap_near') | ((with_reducible show Array.setIfInBounds _ _ _ = _); rfl) | (with_reducible refine heap_far ?_ ?_; focus (first | omega | (simp; omega) | (simp; done))) | (with_reducible apply heap_grown; with_reducible assumption; (focus (first | omega | (simp; omega)))) | (with_reducible apply heap_call; with_reducible assumption)))); obtain ⟨kc5x, kf5x, kz5x, kh5x⟩ := blk_cells hb5 (g := w2.heap.size) (t := 47) (cs := #[.slice A2 n2 c2, .int .i64 0]) (by (focus (repeat' first | with_reducible assumption | (with_reducible refine heap_drew ?_) | (with_reducible refine heap_drewN ?_) | (with_reducible refine heap_new ?_; focus (first | rfl | omega | (simp; done))) | (with_reducible refine heap_old ?_) | (with_reducible apply heap_near') | ((with_reducible show Array.setIfInBounds _ _ _ = _); rfl) | (with_reducible refine heap_far ?_ ?_; focus (first | omega | (simp; omega) | (simp; done))) | (with_reducible apply heap_grown; with_reducible assumption; (focus (first | omega | (simp; omega)))) | (with_reducible apply heap_call; with_reducible assumption)))); obtain ⟨kc5u, kf5u, kz5u, kh5u⟩ := blk_cells hb5 (g := w4.heap.size) (t := 47) (cs := #[.slice A4 n4 c4, .int .i64 s4]) (by (focus (repeat' first | with_reducible assumption | (with_reducible refine heap_drew ?_) | (with_reducible refine heap_drewN ?_) | (with_reducible refine heap_new ?_; focus (first | rfl | omega | (simp; done))) | (with_reducible refine heap_old ?_) | (with_reducible apply heap_near') | ((with_reducible show Array.setIfInBounds _ _ _ = _); rfl) | (with_reducible refine heap_far ?_ ?_; focus (first | omega | (simp; omega) | (simp; done))) | (with_reducible apply heap_grown; with_reducible assumption; (focus (first | omega | (simp; omega)))) | (with_reducible apply heap_call; with_reducible assumption))))))
          | (go_at_call 11; refine (hA.out _ ?_).mono ?_; (refine bel_out ?_; (focus (repeat' first | (with_reducible refine bel_refl ?_) | with_reducible assumption | with_reducible refine bel_drew ?_ | with_reducible refine bel_drewN _ ?_ | with_reducible refine bel_alloc _ ?_ | with_reducible refine bel_set ?_ _ ?_ | (with_reducible apply bel_call; with_reducible assumption) | (with_reducible apply bel_owg; with_reducible assumption; (focus omega)) | with_reducible exact Nat.le_refl _ | omega | (simp; done) | (simp; omega)))); rintro e w6 ⟨rfl, hb6⟩; obtain ⟨kc6, kf6, kz6, kh6⟩ := blk_cells hb6 (g := w1.heap.size) (t := 47) (cs := #[.slice A1 n1 c1, .int .i64 0]) (by (focus (repeat' first | with_reducible assumption | (with_reducible refine heap_drew ?_) | (with_reducible refine heap_drewN ?_) | (with_reducible refine heap_new ?_; focus (first | rfl | omega | (simp; done))) | (with_reducible refine heap_old ?_) | (with_reducible apply heap_near') | ((with_reducible show Array.setIfInBounds _ _ _ = _); rfl) | (with_reducible refine heap_far ?_ ?_; focus (first | omega | (simp; omega) | (simp; done))) | (with_reducible apply heap_grown; with_reducible assumption; (focus (first | omega | (simp; omega)))) | (with_reducible apply heap_call; with_reducible assumption)))); obtain ⟨kc6x, kf6x, kz6x, kh6x⟩ := blk_cells hb6 (g := w2.heap.size) (t := 47) (cs := #[.slice A2 n2 c2, .int .i64 0]) (by (focus (repeat' first | with_reducible assumption | (with_reducible refine heap_drew ?_) | (with_reducible refine heap_drewN ?_) | (with_reducible refine heap_new ?_; focus (first | rfl | omega | (simp; done))) | (with_reducible refine heap_old ?_) | (with_reducible apply heap_near') | ((with_reducible show Array.setIfInBounds _ _ _ = _); rfl) | (with_reducible refine heap_far ?_ ?_; focus (first | omega | (simp; omega) | (simp; done))) | (with_reducible apply heap_grown; with_reducible assumption; (focus (first | omega | (simp; omega)))) | (with_reducible apply heap_call; with_reducible assumption)))); obtain ⟨kc6u, kf6u, kz6u, kh6u⟩ := blk_cells hb6 (g := w4.heap.size) (t := 47) (cs := #[.slice A4 n4 c4, .int .i64 s4]) (by (focus (repeat' first | with_reducible assumption | (with_reducible refine heap_drew ?_) | (with_reducible refine heap_drewN ?_) | (with_reducible refine heap_new ?_; focus (first | rfl | omega | (simp; done))) | (with_reducible refine heap_old ?_) | (with_reducible apply heap_near') | ((with_reducible show Array.setIfInBounds _ _ _ = _); rfl) | (with_reducible refine heap_far ?_ ?_; focus (first | omega | (simp; omega) | (simp; done))) | (with_reducible apply heap_grown; with_reducible assumption; (focus (first | omega | (simp; omega)))) | (with_reducible apply heap_call; with_reducible assumption)))); obtain ⟨kc6v, kf6v, kz6v, kh6v⟩ := blk_cells hb6 (g := w5.heap.size) (t := 47) (cs := #[.slice A5 n5 c5, .int .i64 s5]) (by (focus (repeat' first | with_reducible assumption | (with_reducible refine heap_drew ?_) | (with_reducible refine heap_drewN ?_) | (with_reducible refine heap_new ?_; focus (first | rfl | omega | (simp; done))) | (with_reducible refine heap_old ?_) | (with_reducible apply heap_near') | ((with_reducible show Array.setIfInBounds _ _ _ = _); rfl) | (with_reducible refine heap_far ?_ ?_; focus (first | omega | (simp; omega) | (simp; done))) | (with_reducible apply heap_grown; with_reducible assumption; (focus (first | omega | (simp; omega)))) | (with_reducible apply heap_call; with_reducible assumption)))))
          | (go_at_call 16; (with_reducible refine (same_true A4 n4 c4 A2 n2 c2 (X ++ frameB (mc + 1) d) (X ++ frameB (mc + 1) d) _ ?_ ?_ rfl).mono ?_); (focus (refine RdB.below hr4 ?_; (refine bel_out ?_; (focus (repeat' first | (with_reducible refine bel_refl ?_) | with_reducible assumption | with_reducible refine bel_drew ?_ | with_reducible refine bel_drewN _ ?_ | with_reducible refine bel_alloc _ ?_ | with_reducible refine bel_set ?_ _ ?_ | (with_reducible apply bel_call; with_reducible assumption) | (with_reducible apply bel_owg; with_reducible assumption; (focus omega)) | with_reducible exact Nat.le_refl _ | omega | (simp; done) | (simp; omega)))))); (focus (refine RdB.below hr2 ?_; (refine bel_out ?_; (focus (repeat' first | (with_reducible refine bel_refl ?_) | with_reducible assumption | with_reducible refine bel_drew ?_ | with_reducible refine bel_drewN _ ?_ | with_reducible refine bel_alloc _ ?_ | with_reducible refine bel_set ?_ _ ?_ | (with_reducible apply bel_call; with_reducible assumption) | (with_reducible apply bel_owg; with_reducible assumption; (focus omega)) | with_reducible exact Nat.le_refl _ | omega | (simp; done) | (simp; omega)))))); rintro e w7 ⟨rfl, hb7⟩; obtain ⟨kc7, kf7, kz7, kh7⟩ := blk_cells hb7 (g := w1.heap.size) (t := 47) (cs := #[.slice A1 n1 c1, .int .i64 0]) (by (focus (repeat' first | with_reducible assumption | (with_reducible refine heap_drew ?_) | (with_reducible refine heap_drewN ?_) | (with_reducible refine heap_new ?_; focus (first | rfl | omega | (simp; done))) | (with_reducible refine heap_old ?_) | (with_reducible apply heap_near') | ((with_reducible show Array.setIfInBounds _ _ _ = _); rfl) | (with_reducible refine heap_far ?_ ?_; focus (first | omega | (simp; omega) | (simp; done))) | (with_reducible apply heap_grown; with_reducible assumption; (focus (first | omega | (simp; omega)))) | (with_reducible apply heap_call; with_reducible assumption)))); obtain ⟨kc7v, kf7v, kz7v, kh7v⟩ := blk_cells hb7 (g := w5.heap.size) (t := 47) (cs := #[.slice A5 n5 c5, .int .i64 s5]) (by (focus (repeat' first | with_reducible assumption | (with_reducible refine heap_drew ?_) | (with_reducible refine heap_drewN ?_) | (with_reducible refine heap_new ?_; focus (first | rfl | omega | (simp; done))) | (with_reducible refine heap_old ?_) | (with_reducible apply heap_near') | ((with_reducible show Array.setIfInBounds _ _ _ = _); rfl) | (with_reducible refine heap_far ?_ ?_; focus (first | omega | (simp; omega) | (simp; done))) | (with_reducible apply heap_grown; with_reducible assumption; (focus (first | omega | (simp; omega)))) | (with_reducible apply heap_call; with_reducible assumption)))))
          | (go_at_call 16; go_must ((with_reducible refine (same_true A5 n5 c5 A1 n1 c1 X X _ ?_ ?_ rfl).mono ?_); (focus (refine RdB.below hr5 ?_; (refine bel_out ?_; (focus (repeat' first | (with_reducible refine bel_refl ?_) | with_reducible assumption | with_reducible refine bel_drew ?_ | with_reducible refine bel_drewN _ ?_ | with_reducible refine bel_alloc _ ?_ | with_reducible refine bel_set ?_ _ ?_ | (with_reducible apply bel_call; with_reducible assumption) | (with_reducible apply bel_owg; with_reducible assumption; (focus omega)) | with_reducible exact Nat.le_refl _ | omega | (simp; done) | (simp; omega)))))); (focus (refine RdB.below ho1.rd ?_; (refine bel_out ?_; (focus (repeat' first | (with_reducible refine bel_refl ?_) | with_reducible assumption | with_reducible refine bel_drew ?_ | with_reducible refine bel_drewN _ ?_ | with_reducible refine bel_alloc _ ?_ | with_reducible refine bel_set ?_ _ ?_ | (with_reducible apply bel_call; with_reducible assumption) | (with_reducible apply bel_owg; with_reducible assumption; (focus omega)) | with_reducible exact Nat.le_refl _ | omega | (simp; done) | (simp; omega)))))); rintro e w8 ⟨rfl, hb8⟩)))
        go_ret
        exact ⟨rfl, by (refine bel_out ?_; (focus (repeat' first | (with_reducible refine bel_refl ?_) | with_reducible assumption | with_reducible refine bel_drew ?_ | with_reducible refine bel_drewN _ ?_ | with_reducible refine bel_alloc _ ?_ | with_reducible refine bel_set ?_ _ ?_ | (with_reducible apply bel_call; with_reducible assumption) | (with_reducible apply bel_owg; with_reducible assumption; (focus omega)) | with_reducible exact Nat.le_refl _ | omega | (simp; done) | (simp; omega))))⟩

end Go.Proofs.Ytaagmiidapammaa
