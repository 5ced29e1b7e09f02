/- The walk of made: a disk after some operations. -/
import Derived.Test.YtdfmdciopeklhaaSrc
import Derived.Test.YtdfmdciopeklhaaLaws0
import Derived.Deep.RegionLaw
namespace Go.Proofs.Ytdfmdciopeklhaa
open Go.RowKit
set_option linter.unusedSimpArgs false
set_option linter.unusedVariables false

theorem OwB.grown {w w' : World} {base e g t : Nat} {A : Option Addr} {n c : Nat} {l : List UInt8} {cs : Array Value} (hg : w.grownBy w' (some g)) (hb : w.heap[g]? = some (.cells cs t (0, 0))) (hne : t ≠ e) (h : OwB w base e A n c l) : OwB w' base e A n c l :=
  ⟨h.len, h.cap, h.max, h.own.1, h.own.2.imp id fun ⟨g', cap, cur, h1, h2, h3, r⟩ => ⟨g', cap, cur, h1, h2, heap_grown hg (fun e1 => by
    subst e1
    rw [hb] at h3
    injection h3 with h3
    injection h3 with _ h4
    exact hne h4) h3, r⟩⟩
theorem SrcAt.out {w : World} {g : Nat} {A : Option Addr} {n c : Nat} (h : SrcAt w g A n c) : ∃ cs, w.heap[g]? = some (.cells cs 54 (0, 0)) := by
  obtain ⟨k, seed, _, hh⟩ := h
  exact ⟨_, hh⟩
theorem SrcAt.call {w w' : World} {g : Nat} {A : Option Addr} {n c : Nat} (hb : Below w.heap.size w w') (h : SrcAt w g A n c) : SrcAt w' g A n c := by
  obtain ⟨k, seed, hk, hh⟩ := h
  exact ⟨k, seed, hk, heap_call hb hh⟩
theorem SrcAt.set {w : World} {g g' i : Nat} {u : Value} {A : Option Addr} {n c : Nat} (hne : g ≠ g') (h : SrcAt w g A n c) : SrcAt (w.setCell ⟨g', i, none⟩ u) g A n c := by
  obtain ⟨k, seed, hk, hh⟩ := h
  exact ⟨k, seed, hk, heap_far hne hh⟩
theorem SrcAt.alloc {w : World} {g : Nat} {o : Obj} {A : Option Addr} {n c : Nat} (h : SrcAt w g A n c) : SrcAt (w.alloc o) g A n c := by
  obtain ⟨k, seed, hk, hh⟩ := h
  exact ⟨k, seed, hk, heap_old hh⟩
theorem SrcAt.drew {w : World} {g : Nat} {A : Option Addr} {n c : Nat} (h : SrcAt w g A n c) : SrcAt w.drew g A n c := h
theorem SrcAt.drewN {w : World} {k g : Nat} {A : Option Addr} {n c : Nat} (h : SrcAt w g A n c) : SrcAt (w.drewN k) g A n c := h

theorem keep_next {w0 wr w2 : World} {gs gd gr n c nd cd : Nat} {A Ad : Option Addr} {ld : List UInt8} {x y : Obj} {base e : Nat} (hg : wr.grownBy w2 (some gs)) (hs : SrcAt wr gs A n c) (he : e ≠ 54)
    (h1 : gd ≠ gs) (h2 : gr ≠ gs) (hd : wr.heap[gd]? = some x) (hr : wr.heap[gr]? = some y) (ho : OwB wr base e Ad nd cd ld) (hb : Below w0.heap.size w0 wr) (h3 : w0.heap.size ≤ gs) :
    w2.heap[gd]? = some x ∧ w2.heap[gr]? = some y ∧ OwB w2 base e Ad nd cd ld ∧ Below w0.heap.size w0 w2 := by
  obtain ⟨cs, hcs⟩ := hs.out
  refine ⟨heap_grown hg h1 hd, heap_grown hg h2 hr, OwB.grown hg hcs (Ne.symm he) ho, hb.grown hg hb.size ?_⟩
  intro k hk
  injection hk with hk
  omega

theorem valid_sy {nd : Nat} {ld : List UInt8} {sd : Int} (h1 : nd = ld.length) (h2 : validB nd sd = true) : validB nd (syS ld sd) = true := by
  obtain ⟨a, b, c⟩ := valid_le h2
  unfold syS
  rw [← h1, h2]
  simp [validB]
  omega
theorem grown_of_drew {w w' : World} {row : Option Nat} (h : w.drew.grownBy w' row) : w.grownBy w' row := ⟨h.os, h.tape, h.output, h.size, h.block⟩

theorem OwB.setT {w : World} {base e g t i : Nat} {u : Value} {cs : Array Value} {A : Option Addr} {n c : Nat} {l : List UInt8} (hh : w.heap[g]? = some (.cells cs t (0, 0))) (hne : t ≠ e) (h : OwB w base e A n c l) : OwB (w.setCell ⟨g, i, none⟩ u) base e A n c l :=
  OwB.grown (grown_set (p := ⟨g, i, none⟩) u) hh hne h

theorem rwrite_two (g k : Nat) (x y : Int) (Ad : Option Addr) (nd cd : Nat) (ld : List UInt8) (sd : Int) (W : World) (hd : RdB W Ad nd cd ld)
    (hh : W.heap[g]? = some (.cells #[.int .u8 (IntKind.u8.wrap x), .int .u8 (IntKind.u8.wrap y)] 5 (0, 0))) (hk : k ≤ 2) (hv : validB nd sd = true) (hn : nd ≤ 1000) :
    Calls Try.prog 21 #[.agg #[.slice Ad nd cd, .int .i64 sd], .slice (some ⟨g, 0, none⟩) k 2] W
      (Ret W fun v w' => ∃ A n c l, v = .tuple #[.agg #[.slice A n c, .int .i64 sd], .int .i64 0] ∧ OwB w' W.heap.size 5 A n c l ∧ n = nd + k) := by
  have e : ∀ z : Int, IntKind.u8.wrap z = ((low8 z).toNat : Int) := fun z => by rw [low8_toNat, IntKind.wrap_u8']
  rw [e, e] at hh
  have hr2 : RdB W (some ⟨g, 0, none⟩) k 2 ([low8 x, low8 y].take k) := by
    refine RdB.lit hh (by simp; omega) ?_ hk (by unfold maxLen; omega)
    rw [bs_take]
    rfl
  have h := rwrite_any Ad nd cd ld sd _ _ _ _ W hd hr2
  have h1 := hd.len
  have h2 := hr2.len
  have ht' : tooB nd k = false := by simp [tooB]; omega
  have e1 : wrL ld sd ([low8 x, low8 y].take k) = ld ++ [low8 x, low8 y].take k := by rw [wrL, ← h1, ← h2, hv, ht']; simp
  have e2 : wrS ld sd ([low8 x, low8 y].take k) = sd := by rw [wrS, ← h1, ← h2, hv, ht']; simp
  have e3 : wrE ld sd ([low8 x, low8 y].take k) = 0 := by rw [wrE, ← h1, ← h2, hv, ht']; simp
  rw [e1, e2, e3] at h
  refine h.mono ?_
  rintro e w' ⟨v, rfl, ⟨d, rfl, ⟨A, n, c, rfl, ho⟩⟩, hb⟩
  exact ⟨_, rfl, ⟨A, n, c, _, rfl, ho, by rw [ho.len, List.length_append, ← h1, ← h2]⟩, hb⟩
theorem valid_more {n m : Nat} {s : Int} (h : validB n s = true) (h1 : n ≤ m) (h2 : m ≤ 1000) : validB m s = true := by
  obtain ⟨a, b, c⟩ := valid_le h
  simp [validB]
  omega

def RMade (w : World) : Ending → World → Prop := Ret w fun v w' => ∃ A n c l s, v = .agg #[.slice A n c, .int .i64 s] ∧ OwB w' w.heap.size 5 A n c l ∧ validB n s = true ∧ n ≤ 100

set_option maxHeartbeats 3200000 in
theorem made_any (A : Option Addr) (n c : Nat) (zs : List Int) (x : Int) (w : World) (hr : RdI w A n c zs) :
    Calls Try.prog 16 #[.slice A n c, .int .i64 x] w (RMade w) := by
  obtain ⟨K, hK⟩ := Int.eq_ofNat_of_zero_le (Int.emod_nonneg x (by omega : (25 : Int) ≠ 0))
  have hK6 : K < 25 := by have := Int.emod_lt_of_pos x (by omega : (0 : Int) < 25); omega
  have hr1 : ∀ W : World, Calls Try.prog 18 #[.int .i64 x, .int .i64 25] W fun e w' => e = .returned (.int .i64 K) ∧ W = w' := fun W => by
    rw [← hK]; exact (round_any x 25 W (by omega) (by omega)).mono fun _ _ h => ⟨h.1, h.2.symm⟩
  have hn : ∀ (W : World) (g : Nat) (m : Int), Below w.heap.size w W → w.heap.size ≤ g → SrcAt W g A n c → 0 < m → m ≤ 4611686018427387904 → Calls Try.prog 28 #[.pointer (some ⟨g, 0, none⟩), .int .i64 m] W (RNext W g A n c m) :=
    fun W g m h1 h2 h3 h4 h5 => next_any w g A n c zs m W hr h1 h2 h3 h4 h5
  have hf : ∀ W : World, Below w.heap.size w W → Calls Try.prog 25 #[.slice A n c] W (RFrom W A n c) := fun W hW =>
    from_any A n c zs W ⟨hr.len, hr.cap, hr.max, (hr.reads.below hW).more hW.size⟩
  have HR1 := Lib.hid hr1
  have HN := Lib.hid hn
  have HF := Lib.hid hf
  clear hr1 hn hf hK
  go_enter Try.func16, Try.ntmps16
  go_wp2_with (first
    | (go_at_call 25; refine (HF.out _ ?_).mono ?_; (refine bel_out ?_; (focus (repeat' first | (with_reducible refine bel_refl ?_) | with_reducible assumption | with_reducible refine bel_drew ?_ | with_reducible refine bel_drewN _ ?_ | with_reducible refine bel_alloc _ ?_ | with_reducible refine bel_set ?_ _ ?_ | (with_reducible apply bel_call; with_reducible assumption) | with_reducible exact Nat.le_refl _ | omega | (simp; done) | (simp; omega)))); rintro e w1 ⟨v1, rfl, ⟨gs, rfl, hgs, hsrc⟩, hb1⟩; obtain ⟨kc1, kf1, kz1, kh1⟩ := blk_cells hb1 (g := w.heap.size) (t := 24) (cs := #[.slice none 0 0, .int .i64 0]) (by (focus (repeat' first | with_reducible assumption | (with_reducible refine heap_drew ?_) | (with_reducible refine heap_drewN ?_) | (with_reducible refine heap_new ?_; focus (first | rfl | omega | (simp; done))) | (with_reducible refine heap_old ?_) | (with_reducible apply heap_near') | ((with_reducible show Array.setIfInBounds _ _ _ = _); rfl) | (with_reducible refine heap_far ?_ ?_; focus (first | omega | (simp; omega) | (simp; done))) | (with_reducible apply heap_grown; with_reducible assumption; (focus (first | omega | (simp; omega)))) | (with_reducible apply heap_call; with_reducible assumption)))))
    | (go_at_call 18; (with_reducible refine (HR1.out _).mono ?_); rintro e W ⟨rfl, rfl⟩))
  have hgs1 : w.heap.size < gs := by simp at hgs; omega
  have hgs2 : gs < w1.heap.size := by
    obtain ⟨k0, s0, _, hh0⟩ := hsrc
    exact Blk.lt hh0
  clear hgs
  go_loopw [7] (fun i wr => ∃ (j : Nat) (Ad : Option Addr) (nd cd : Nat) (ld : List UInt8) (sd : Int), j ≤ K ∧ i = .int .i64 j ∧ SrcAt wr gs A n c ∧
      wr.heap[w1.heap.size]? = some (.cells #[.slice Ad nd cd, .int .i64 sd] 24 (0, 0)) ∧ wr.heap[w.heap.size]? = some (.cells #[.slice none 0 0, .int .i64 0] 24 (0, 0)) ∧
      OwB wr w.heap.size 5 Ad nd cd ld ∧ validB nd sd = true ∧ nd + 2 * j ≤ 50 ∧ Below w.heap.size w wr) (fun i _ => (intOf i).toNat)
  case atStart => exact ⟨K, none, 0, 0, [], 0, Nat.le_refl _, rfl, (by (focus (repeat' first | with_reducible assumption | (with_reducible apply SrcAt.drew) | (with_reducible apply SrcAt.drewN) | (with_reducible apply SrcAt.alloc) | (with_reducible apply SrcAt.set) | (with_reducible apply SrcAt.call; with_reducible assumption) | omega | (simp; omega)))), (by (focus (repeat' first | with_reducible assumption | (with_reducible refine heap_drew ?_) | (with_reducible refine heap_drewN ?_) | (with_reducible refine heap_new ?_; focus (first | rfl | omega | (simp; done))) | (with_reducible refine heap_old ?_) | (with_reducible apply heap_near') | ((with_reducible show Array.setIfInBounds _ _ _ = _); rfl) | (with_reducible refine heap_far ?_ ?_; focus (first | omega | (simp; omega) | (simp; done))) | (with_reducible apply heap_grown; with_reducible assumption; (focus (first | omega | (simp; omega)))) | (with_reducible apply heap_call; with_reducible assumption)))), (by (focus (repeat' first | with_reducible assumption | (with_reducible refine heap_drew ?_) | (with_reducible refine heap_drewN ?_) | (with_reducible refine heap_new ?_; focus (first | rfl | omega | (simp; done))) | (with_reducible refine heap_old ?_) | (with_reducible apply heap_near') | ((with_reducible show Array.setIfInBounds _ _ _ = _); rfl) | (with_reducible refine heap_far ?_ ?_; focus (first | omega | (simp; omega) | (simp; done))) | (with_reducible apply heap_grown; with_reducible assumption; (focus (first | omega | (simp; omega)))) | (with_reducible apply heap_call; with_reducible assumption)))), OwB.nil _ _ _, rfl, by omega, (by (refine bel_out ?_; (focus (repeat' first | (with_reducible refine bel_refl ?_) | with_reducible assumption | with_reducible refine bel_drew ?_ | with_reducible refine bel_drewN _ ?_ | with_reducible refine bel_alloc _ ?_ | with_reducible refine bel_set ?_ _ ?_ | (with_reducible apply bel_call; with_reducible assumption) | with_reducible exact Nat.le_refl _ | omega | (simp; done) | (simp; omega)))))⟩
  case round =>
    obtain ⟨j, Ad, nd, cd, ld, sd, hj, rfl, hsr, hd, hres, hod, hvd, hnd, hbw⟩ := hrel
    clear hsrc kc1 kf1 kh1 hb1
    have kc0 := Blk.cell hd
    have kf0 := Blk.frozen hd
    by_cases hj0 : j = 0
    · subst hj0
      have krc := Blk.cell hres
      have krf := Blk.frozen hres
      go_wp2
      refine bodyPost_ret (v := .agg #[.slice Ad nd cd, .int .i64 sd]) ?_ rfl ⟨_, rfl, ⟨_, _, _, ld, _, rfl, ?_, hvd, by omega⟩, ?_⟩
      · simp [results, Try.results16, go_sem, krc]
      · exact OwB.setT (t := 24) (cs := #[.slice Ad nd cd, .int .i64 0]) (by (focus (repeat' first | with_reducible assumption | (with_reducible refine heap_drew ?_) | (with_reducible refine heap_drewN ?_) | (with_reducible refine heap_new ?_; focus (first | rfl | omega | (simp; done))) | (with_reducible refine heap_old ?_) | (with_reducible apply heap_near') | ((with_reducible show Array.setIfInBounds _ _ _ = _); rfl) | (with_reducible refine heap_far ?_ ?_; focus (first | omega | (simp; omega) | (simp; done))) | (with_reducible apply heap_grown; with_reducible assumption; (focus (first | omega | (simp; omega)))) | (with_reducible apply heap_call; with_reducible assumption)))) (by decide) (OwB.setT (t := 24) hres (by decide) hod)
      · (refine bel_out ?_; (focus (repeat' first | (with_reducible refine bel_refl ?_) | with_reducible assumption | with_reducible refine bel_drew ?_ | with_reducible refine bel_drewN _ ?_ | with_reducible refine bel_alloc _ ?_ | with_reducible refine bel_set ?_ _ ?_ | (with_reducible apply bel_call; with_reducible assumption) | with_reducible exact Nat.le_refl _ | omega | (simp; done) | (simp; omega))))
    · obtain ⟨j, rfl⟩ : ∃ i, j = i + 1 := ⟨j - 1, by omega⟩
      go_wp2_with (first
        | ((go_at_call 28; refine (HN.out _ _ _ ?_ ?_ ?_ ?_ ?_).mono ?_; (focus (refine bel_out ?_; (focus (repeat' first | (with_reducible refine bel_refl ?_) | with_reducible assumption | with_reducible refine bel_drew ?_ | with_reducible refine bel_drewN _ ?_ | with_reducible refine bel_alloc _ ?_ | with_reducible refine bel_set ?_ _ ?_ | (with_reducible apply bel_call; with_reducible assumption) | with_reducible exact Nat.le_refl _ | omega | (simp; done) | (simp; omega))))); (focus omega); (focus (exact hsr)); (focus omega); (focus omega); rintro e w2 ⟨q2, rfl, q2a, q2b, hs2, hg2⟩); obtain ⟨hd2, hres2, hod2, hbw2⟩ := keep_next hg2 hsr (by decide) (by omega) (by omega) hd hres hod hbw (by omega); clear hg2 hsr hd hres hod hbw kc0 kf0; have kc0 := Blk.cell hd2; have kf0 := Blk.frozen hd2)
        | (go_at_call 13; refine (rsync_any _ _ _ ld _ _ ?_).mono ?_; (focus exact hod2.rd); rintro e w3 ⟨v3, rfl, rfl, hb3⟩; have hd3 := heap_call hb3 hd2; have hres3 := heap_call hb3 hres2; have hod3 := OwB.call hb3 hod2; have hs3 := SrcAt.call hb3 hs2; have kc3 := Blk.cell hd3; have kf3 := Blk.frozen hd3))
      · go_roundw
        case rel => exact ⟨j, Ad, nd, cd, ld, _, by omega, by go_num, (by (focus (repeat' first | with_reducible assumption | (with_reducible apply SrcAt.drew) | (with_reducible apply SrcAt.drewN) | (with_reducible apply SrcAt.alloc) | (with_reducible apply SrcAt.set) | (with_reducible apply SrcAt.call; with_reducible assumption) | omega | (simp; omega)))), (by (focus (repeat' first | with_reducible assumption | (with_reducible refine heap_drew ?_) | (with_reducible refine heap_drewN ?_) | (with_reducible refine heap_new ?_; focus (first | rfl | omega | (simp; done))) | (with_reducible refine heap_old ?_) | (with_reducible apply heap_near') | ((with_reducible show Array.setIfInBounds _ _ _ = _); rfl) | (with_reducible refine heap_far ?_ ?_; focus (first | omega | (simp; omega) | (simp; done))) | (with_reducible apply heap_grown; with_reducible assumption; (focus (first | omega | (simp; omega)))) | (with_reducible apply heap_call; with_reducible assumption)))), (by (focus (repeat' first | with_reducible assumption | (with_reducible refine heap_drew ?_) | (with_reducible refine heap_drewN ?_) | (with_reducible refine heap_new ?_; focus (first | rfl | omega | (simp; done))) | (with_reducible refine heap_old ?_) | (with_reducible apply heap_near') | ((with_reducible show Array.setIfInBounds _ _ _ = _); rfl) | (with_reducible refine heap_far ?_ ?_; focus (first | omega | (simp; omega) | (simp; done))) | (with_reducible apply heap_grown; with_reducible assumption; (focus (first | omega | (simp; omega)))) | (with_reducible apply heap_call; with_reducible assumption)))), OwB.setT (t := 24) (cs := #[.slice Ad nd cd, .int .i64 sd]) (by (focus (repeat' first | with_reducible assumption | (with_reducible refine heap_drew ?_) | (with_reducible refine heap_drewN ?_) | (with_reducible refine heap_new ?_; focus (first | rfl | omega | (simp; done))) | (with_reducible refine heap_old ?_) | (with_reducible apply heap_near') | ((with_reducible show Array.setIfInBounds _ _ _ = _); rfl) | (with_reducible refine heap_far ?_ ?_; focus (first | omega | (simp; omega) | (simp; done))) | (with_reducible apply heap_grown; with_reducible assumption; (focus (first | omega | (simp; omega)))) | (with_reducible apply heap_call; with_reducible assumption)))) (by decide) (OwB.setT (t := 24) (cs := #[.slice Ad nd cd, .int .i64 sd]) hd3 (by decide) hod3), valid_sy hod3.len hvd, by omega, (by (refine bel_out ?_; (focus (repeat' first | (with_reducible refine bel_refl ?_) | with_reducible assumption | with_reducible refine bel_drew ?_ | with_reducible refine bel_drewN _ ?_ | with_reducible refine bel_alloc _ ?_ | with_reducible refine bel_set ?_ _ ?_ | (with_reducible apply bel_call; with_reducible assumption) | with_reducible exact Nat.le_refl _ | omega | (simp; done) | (simp; omega)))))⟩
        case measure => simp [intOf]
      · have hz2 : w1.heap.size < w2.heap.size := Blk.lt hd2
        go_region_law (first
          | (go_simp; go_at_call 21; go_must (refine (rwrite_two _ _ q4 q5 _ _ _ ld _ _ ?_ ?_ hk6 hvd (by omega)).mono ?_; (focus (first | exact hod6.rd | exact (OwB.alloc _ hod6).rd)); (focus (focus (repeat' first | with_reducible assumption | (with_reducible refine heap_drew ?_) | (with_reducible refine heap_drewN ?_) | (with_reducible refine heap_new ?_; focus (first | rfl | omega | (simp; done))) | (with_reducible refine heap_old ?_) | (with_reducible apply heap_near') | ((with_reducible show Array.setIfInBounds _ _ _ = _); rfl) | (with_reducible refine heap_far ?_ ?_; focus (first | omega | (simp; omega) | (simp; done))) | (with_reducible apply heap_grown; with_reducible assumption; (focus (first | omega | (simp; omega)))) | (with_reducible apply heap_call; with_reducible assumption)))); rintro e w7 ⟨v7, rfl, ⟨A7, n7, c7, l7, rfl, ho7, hn7⟩, hb7⟩; subst hn7; have hd7 : w7.heap[w1.heap.size]? = some (.cells #[.slice Ad nd cd, .int .i64 sd] 24 (0, 0)) := (by (focus (repeat' first | with_reducible assumption | (with_reducible refine heap_drew ?_) | (with_reducible refine heap_drewN ?_) | (with_reducible refine heap_new ?_; focus (first | rfl | omega | (simp; done))) | (with_reducible refine heap_old ?_) | (with_reducible apply heap_near') | ((with_reducible show Array.setIfInBounds _ _ _ = _); rfl) | (with_reducible refine heap_far ?_ ?_; focus (first | omega | (simp; omega) | (simp; done))) | (with_reducible apply heap_grown; with_reducible assumption; (focus (first | omega | (simp; omega)))) | (with_reducible apply heap_call; with_reducible assumption)))); have hres7 : w7.heap[w.heap.size]? = some (.cells #[.slice none 0 0, .int .i64 0] 24 (0, 0)) := (by (focus (repeat' first | with_reducible assumption | (with_reducible refine heap_drew ?_) | (with_reducible refine heap_drewN ?_) | (with_reducible refine heap_new ?_; focus (first | rfl | omega | (simp; done))) | (with_reducible refine heap_old ?_) | (with_reducible apply heap_near') | ((with_reducible show Array.setIfInBounds _ _ _ = _); rfl) | (with_reducible refine heap_far ?_ ?_; focus (first | omega | (simp; omega) | (simp; done))) | (with_reducible apply heap_grown; with_reducible assumption; (focus (first | omega | (simp; omega)))) | (with_reducible apply heap_call; with_reducible assumption)))); have hs7 : SrcAt w7 gs A n c := (by (focus (repeat' first | with_reducible assumption | (with_reducible apply SrcAt.drew) | (with_reducible apply SrcAt.drewN) | (with_reducible apply SrcAt.alloc) | (with_reducible apply SrcAt.set) | (with_reducible apply SrcAt.call; with_reducible assumption) | omega | (simp; omega)))); have hbw7 : Below w.heap.size w w7 := (by (refine bel_out ?_; (focus (repeat' first | (with_reducible refine bel_refl ?_) | with_reducible assumption | with_reducible refine bel_drew ?_ | with_reducible refine bel_drewN _ ?_ | with_reducible refine bel_alloc _ ?_ | with_reducible refine bel_set ?_ _ ?_ | (with_reducible apply bel_call; with_reducible assumption) | with_reducible exact Nat.le_refl _ | omega | (simp; done) | (simp; omega))))); have ho7' : OwB w7 w.heap.size 5 A7 (nd + k6) c7 l7 := OwB.mono ho7 (by have := hbw6.size; first | omega | (simp; omega)); clear ho7; have kc7 := Blk.cell hd7; have kf7 := Blk.frozen hd7))
          | (go_simp; go_at_call 28; have _t := hbw5; refine (HN.out _ _ _ ?_ ?_ ?_ ?_ ?_).mono ?_; (focus (refine bel_out ?_; (focus (repeat' first | (with_reducible refine bel_refl ?_) | with_reducible assumption | with_reducible refine bel_drew ?_ | with_reducible refine bel_drewN _ ?_ | with_reducible refine bel_alloc _ ?_ | with_reducible refine bel_set ?_ _ ?_ | (with_reducible apply bel_call; with_reducible assumption) | with_reducible exact Nat.le_refl _ | omega | (simp; done) | (simp; omega))))); (focus omega); (focus (focus (repeat' first | with_reducible assumption | (with_reducible apply SrcAt.drew) | (with_reducible apply SrcAt.drewN) | (with_reducible apply SrcAt.alloc) | (with_reducible apply SrcAt.set) | (with_reducible apply SrcAt.call; with_reducible assumption) | omega | (simp; omega)))); (focus omega); (focus omega); rintro e w6 ⟨q6, rfl, q6a, q6b, hs6, hg6⟩; obtain ⟨k6, rfl⟩ := Int.eq_ofNat_of_zero_le q6a; have hk6 : k6 ≤ 2 := (by omega); have hk6' : (k6 : Int) ≤ 2 := (by omega); obtain ⟨hd6, hres6, hod6, hbw6⟩ := keep_next (w0 := w) (gd := w1.heap.size) (gr := w.heap.size) (e := 5) (base := w.heap.size) (ld := ld) (x := .cells #[.slice Ad nd cd, .int .i64 sd] 24 (0, 0)) (y := .cells #[.slice none 0 0, .int .i64 0] 24 (0, 0)) hg6 (by (focus (repeat' first | with_reducible assumption | (with_reducible apply SrcAt.drew) | (with_reducible apply SrcAt.drewN) | (with_reducible apply SrcAt.alloc) | (with_reducible apply SrcAt.set) | (with_reducible apply SrcAt.call; with_reducible assumption) | omega | (simp; omega)))) (by decide) (by omega) (by omega) (by (focus (repeat' first | with_reducible assumption | (with_reducible refine heap_drew ?_) | (with_reducible refine heap_drewN ?_) | (with_reducible refine heap_new ?_; focus (first | rfl | omega | (simp; done))) | (with_reducible refine heap_old ?_) | (with_reducible apply heap_near') | ((with_reducible show Array.setIfInBounds _ _ _ = _); rfl) | (with_reducible refine heap_far ?_ ?_; focus (first | omega | (simp; omega) | (simp; done))) | (with_reducible apply heap_grown; with_reducible assumption; (focus (first | omega | (simp; omega)))) | (with_reducible apply heap_call; with_reducible assumption)))) (by (focus (repeat' first | with_reducible assumption | (with_reducible refine heap_drew ?_) | (with_reducible refine heap_drewN ?_) | (with_reducible refine heap_new ?_; focus (first | rfl | omega | (simp; done))) | (with_reducible refine heap_old ?_) | (with_reducible apply heap_near') | ((with_reducible show Array.setIfInBounds _ _ _ = _); rfl) | (with_reducible refine heap_far ?_ ?_; focus (first | omega | (simp; omega) | (simp; done))) | (with_reducible apply heap_grown; with_reducible assumption; (focus (first | omega | (simp; omega)))) | (with_reducible apply heap_call; with_reducible assumption)))) (by (focus (repeat' first | with_reducible assumption | (with_reducible apply OwB.drew) | (with_reducible apply OwB.drewN) | (with_reducible apply OwB.alloc) | (with_reducible apply OwB.stored) | (with_reducible apply OwB.set) | (with_reducible apply OwB.call; with_reducible assumption) | omega | (simp; done) | (simp; omega)))) (by (refine bel_out ?_; (focus (repeat' first | (with_reducible refine bel_refl ?_) | with_reducible assumption | with_reducible refine bel_drew ?_ | with_reducible refine bel_drewN _ ?_ | with_reducible refine bel_alloc _ ?_ | with_reducible refine bel_set ?_ _ ?_ | (with_reducible apply bel_call; with_reducible assumption) | with_reducible exact Nat.le_refl _ | omega | (simp; done) | (simp; omega))))) (by omega); have kc6 := Blk.cell hd6; have kf6 := Blk.frozen hd6; have hz6 := Blk.lt hd6)
          | (go_simp; go_at_call 28; have _t := hbw4; refine (HN.out _ _ _ ?_ ?_ ?_ ?_ ?_).mono ?_; (focus (refine bel_out ?_; (focus (repeat' first | (with_reducible refine bel_refl ?_) | with_reducible assumption | with_reducible refine bel_drew ?_ | with_reducible refine bel_drewN _ ?_ | with_reducible refine bel_alloc _ ?_ | with_reducible refine bel_set ?_ _ ?_ | (with_reducible apply bel_call; with_reducible assumption) | with_reducible exact Nat.le_refl _ | omega | (simp; done) | (simp; omega))))); (focus omega); (focus (focus (repeat' first | with_reducible assumption | (with_reducible apply SrcAt.drew) | (with_reducible apply SrcAt.drewN) | (with_reducible apply SrcAt.alloc) | (with_reducible apply SrcAt.set) | (with_reducible apply SrcAt.call; with_reducible assumption) | omega | (simp; omega)))); (focus omega); (focus omega); rintro e w5 ⟨q5, rfl, q5a, q5b, hs5, hg5⟩; obtain ⟨hd5, hres5, hod5, hbw5⟩ := keep_next hg5 hs4 (by decide) (by omega) (by omega) hd4 hres4 hod4 hbw4 (by omega); have kc5 := Blk.cell hd5; have kf5 := Blk.frozen hd5; have hz5 := Blk.lt hd5)
          | (go_simp; go_at_call 28; refine (HN.out _ _ _ ?_ ?_ ?_ ?_ ?_).mono ?_; (focus (refine bel_out ?_; (focus (repeat' first | (with_reducible refine bel_refl ?_) | with_reducible assumption | with_reducible refine bel_drew ?_ | with_reducible refine bel_drewN _ ?_ | with_reducible refine bel_alloc _ ?_ | with_reducible refine bel_set ?_ _ ?_ | (with_reducible apply bel_call; with_reducible assumption) | with_reducible exact Nat.le_refl _ | omega | (simp; done) | (simp; omega))))); (focus omega); (focus (focus (repeat' first | with_reducible assumption | (with_reducible apply SrcAt.drew) | (with_reducible apply SrcAt.drewN) | (with_reducible apply SrcAt.alloc) | (with_reducible apply SrcAt.set) | (with_reducible apply SrcAt.call; with_reducible assumption) | omega | (simp; omega)))); (focus omega); (focus omega); rintro e w4 ⟨q4, rfl, q4a, q4b, hs4, hg4⟩; obtain ⟨hd4, hres4, hod4, hbw4⟩ := keep_next (grown_of_drew hg4) hs2 (by decide) (by omega) (by omega) hd2 hres2 hod2 hbw2 (by omega); have kc4 := Blk.cell hd4; have kf4 := Blk.frozen hd4))
        all_goals
          go_wp2
          go_roundw
          case rel => exact ⟨j, A7, nd + k6, c7, l7, sd, by omega, by go_num, (by (focus (repeat' first | with_reducible assumption | (with_reducible apply SrcAt.drew) | (with_reducible apply SrcAt.drewN) | (with_reducible apply SrcAt.alloc) | (with_reducible apply SrcAt.set) | (with_reducible apply SrcAt.call; with_reducible assumption) | omega | (simp; omega)))), (by (focus (repeat' first | with_reducible assumption | (with_reducible refine heap_drew ?_) | (with_reducible refine heap_drewN ?_) | (with_reducible refine heap_new ?_; focus (first | rfl | omega | (simp; done))) | (with_reducible refine heap_old ?_) | (with_reducible apply heap_near') | ((with_reducible show Array.setIfInBounds _ _ _ = _); rfl) | (with_reducible refine heap_far ?_ ?_; focus (first | omega | (simp; omega) | (simp; done))) | (with_reducible apply heap_grown; with_reducible assumption; (focus (first | omega | (simp; omega)))) | (with_reducible apply heap_call; with_reducible assumption)))), (by (focus (repeat' first | with_reducible assumption | (with_reducible refine heap_drew ?_) | (with_reducible refine heap_drewN ?_) | (with_reducible refine heap_new ?_; focus (first | rfl | omega | (simp; done))) | (with_reducible refine heap_old ?_) | (with_reducible apply heap_near') | ((with_reducible show Array.setIfInBounds _ _ _ = _); rfl) | (with_reducible refine heap_far ?_ ?_; focus (first | omega | (simp; omega) | (simp; done))) | (with_reducible apply heap_grown; with_reducible assumption; (focus (first | omega | (simp; omega)))) | (with_reducible apply heap_call; with_reducible assumption)))), OwB.setT (t := 24) (cs := #[.slice A7 (nd + k6) c7, .int .i64 sd]) (by (focus (repeat' first | with_reducible assumption | (with_reducible refine heap_drew ?_) | (with_reducible refine heap_drewN ?_) | (with_reducible refine heap_new ?_; focus (first | rfl | omega | (simp; done))) | (with_reducible refine heap_old ?_) | (with_reducible apply heap_near') | ((with_reducible show Array.setIfInBounds _ _ _ = _); rfl) | (with_reducible refine heap_far ?_ ?_; focus (first | omega | (simp; omega) | (simp; done))) | (with_reducible apply heap_grown; with_reducible assumption; (focus (first | omega | (simp; omega)))) | (with_reducible apply heap_call; with_reducible assumption)))) (by decide) (OwB.setT (t := 24) hd7 (by decide) ho7'), valid_more hvd (by omega) (by omega), by omega, (by (refine bel_out ?_; (focus (repeat' first | (with_reducible refine bel_refl ?_) | with_reducible assumption | with_reducible refine bel_drew ?_ | with_reducible refine bel_drewN _ ?_ | with_reducible refine bel_alloc _ ?_ | with_reducible refine bel_set ?_ _ ?_ | (with_reducible apply bel_call; with_reducible assumption) | with_reducible exact Nat.le_refl _ | omega | (simp; done) | (simp; omega)))))⟩
          case measure => simp [intOf]

end Go.Proofs.Ytdfmdciopeklhaa
