/- The walks of package disk: Crash. -/
import Derived.Test.YtdfmdciopeklhaaDisk3
namespace Go.Proofs.Ytdfmdciopeklhaa
open Go.RowKit
set_option linter.unusedSimpArgs false
set_option linter.unusedVariables false

def crK (n : Nat) (s keep : Int) : Int := max 0 (min keep (n - s))
def crL (l : List UInt8) (s keep : Int) (sp : UInt8) : List UInt8 :=
  if validB l.length s = true then
    (if 0 < crK l.length s keep then (l.take (s + crK l.length s keep).toNat).set ((s + crK l.length s keep).toNat - 1) (l.getD ((s + crK l.length s keep).toNat - 1) 0 ^^^ sp)
     else l.take (s + crK l.length s keep).toNat)
  else l
def crS (l : List UInt8) (s keep : Int) : Int := if validB l.length s = true then s + crK l.length s keep else s

set_option maxHeartbeats 800000 in
theorem crash_not (A : Option Addr) (n c : Nat) (l : List UInt8) (s keep sp : Int) (w : World) (hr : RdB w A n c l) (h47 : n ≤ 140737488355328) (hv : validB n s = false) :
    Calls Try.prog 14 #[.agg #[.slice A n c, .int .i64 s], .int .i64 keep, .int .i64 sp] w (RDisk w l s) := by
  have HLN := Lib.hid hr.len
  have hcl : ∀ W : World, Below w.heap.size w W → Calls Try.prog 27 #[.slice A n c] W (ROwn W l) := fun W hW => clone_any A n c l W (hr.below hW) h47
  have HC := Lib.hid hcl
  clear hcl
  go_enter Try.func14, Try.ntmps14
  go_wp2_with (first
      | (go_at_call 27; refine (HC.out _ ?_).mono ?_; (refine bel_out ?_; (focus (repeat' first | (with_reducible refine bel_refl ?_) | with_reducible assumption | with_reducible refine bel_drew ?_ | with_reducible refine bel_drewN _ ?_ | with_reducible refine bel_alloc _ ?_ | with_reducible refine bel_set ?_ _ ?_ | (with_reducible apply bel_call; with_reducible assumption) | with_reducible exact Nat.le_refl _ | omega | (simp; done) | (simp; omega)))); rintro e w2 ⟨v2, rfl, ⟨A3, n3, c3, rfl, ho3⟩, hb2⟩; obtain ⟨kc2, kf2, kz2, kh2⟩ := blk_cells hb2 (g := w.heap.size) (t := 24) (cs := #[.slice A n c, .int .i64 s]) (by (focus (repeat' first | with_reducible assumption | (with_reducible refine heap_drew ?_) | (with_reducible refine heap_drewN ?_) | (with_reducible refine heap_new ?_; focus (first | rfl | omega | (simp; done))) | (with_reducible refine heap_old ?_) | (with_reducible apply heap_near') | (show Array.setIfInBounds _ _ _ = _; rfl) | (with_reducible refine heap_far ?_ ?_; focus (first | omega | (simp; omega) | (simp; done))) | (with_reducible apply heap_call; with_reducible assumption)))); obtain ⟨kc3, kf3, kz3, kh3⟩ := blk_cells hb2 (g := w.heap.size + 1) (t := 24) (cs := #[.slice none 0 0, .int .i64 0]) (by (focus (repeat' first | with_reducible assumption | (with_reducible refine heap_drew ?_) | (with_reducible refine heap_drewN ?_) | (with_reducible refine heap_new ?_; focus (first | rfl | omega | (simp; done))) | (with_reducible refine heap_old ?_) | (with_reducible apply heap_near') | (show Array.setIfInBounds _ _ _ = _; rfl) | (with_reducible refine heap_far ?_ ?_; focus (first | omega | (simp; omega) | (simp; done))) | (with_reducible apply heap_call; with_reducible assumption)))); obtain rfl : n3 = n := (by rw [ho3.len, HLN.out]))
      | (go_at_call 20; refine (valid_any _ _ _ _ _).mono ?_; rintro e w4 ⟨rfl, hb4⟩; obtain ⟨kc4, kf4, kz4, kh4⟩ := blk_cells hb4 (g := w.heap.size) (t := 24) (cs := #[.slice A3 n3 c3, .int .i64 s]) (by (focus (repeat' first | with_reducible assumption | (with_reducible refine heap_drew ?_) | (with_reducible refine heap_drewN ?_) | (with_reducible refine heap_new ?_; focus (first | rfl | omega | (simp; done))) | (with_reducible refine heap_old ?_) | (with_reducible apply heap_near') | (show Array.setIfInBounds _ _ _ = _; rfl) | (with_reducible refine heap_far ?_ ?_; focus (first | omega | (simp; omega) | (simp; done))) | (with_reducible apply heap_call; with_reducible assumption)))); obtain ⟨kc5, kf5, kz5, kh5⟩ := blk_cells hb4 (g := w.heap.size + 1) (t := 24) (cs := #[.slice none 0 0, .int .i64 0]) (by (focus (repeat' first | with_reducible assumption | (with_reducible refine heap_drew ?_) | (with_reducible refine heap_drewN ?_) | (with_reducible refine heap_new ?_; focus (first | rfl | omega | (simp; done))) | (with_reducible refine heap_old ?_) | (with_reducible apply heap_near') | (show Array.setIfInBounds _ _ _ = _; rfl) | (with_reducible refine heap_far ?_ ?_; focus (first | omega | (simp; omega) | (simp; done))) | (with_reducible apply heap_call; with_reducible assumption))))))
  refine bodyPost_ret (v := .agg #[.slice A3 n3 c3, .int .i64 s]) ?_ rfl ⟨_, rfl, ⟨_, _, _, rfl, ?_⟩, ?_⟩
  · simp [results, Try.results14, go_sem, kc5, kc4]
  · apply OwB.mono; (focus (repeat' first | with_reducible assumption | (with_reducible apply OwB.drew) | (with_reducible apply OwB.drewN) | (with_reducible apply OwB.alloc) | (with_reducible apply OwB.stored) | (with_reducible apply OwB.set) | (with_reducible apply OwB.call; with_reducible assumption) | omega | (simp; done) | (simp; omega))); (focus (first | omega | (simp; done) | (simp; omega)))
  · (refine bel_out ?_; (focus (repeat' first | (with_reducible refine bel_refl ?_) | with_reducible assumption | with_reducible refine bel_drew ?_ | with_reducible refine bel_drewN _ ?_ | with_reducible refine bel_alloc _ ?_ | with_reducible refine bel_set ?_ _ ?_ | (with_reducible apply bel_call; with_reducible assumption) | with_reducible exact Nat.le_refl _ | omega | (simp; done) | (simp; omega))))

set_option maxHeartbeats 800000 in
theorem crash_zero (A : Option Addr) (n c S : Nat) (l : List UInt8) (keep sp : Int) (w : World) (hr : RdB w A n c l) (h47 : n ≤ 140737488355328) (hv : validB n S = true) (hk : crK n S keep = 0) :
    Calls Try.prog 14 #[.agg #[.slice A n c, .int .i64 S], .int .i64 keep, .int .i64 sp] w (RDisk w (l.take S) S) := by
  have HLN := Lib.hid hr.len
  have hcl : ∀ W : World, Below w.heap.size w W → Calls Try.prog 27 #[.slice A n c] W (ROwn W l) := fun W hW => clone_any A n c l W (hr.below hW) h47
  have HC := Lib.hid hcl
  clear hcl
  obtain ⟨v1, v2, v3⟩ := valid_le hv
  have hways : ((n : Int) - S < keep ∧ ¬ (0 < (n : Int) - S)) ∨ (¬ ((n : Int) - S < keep) ∧ ¬ (0 < keep)) := by unfold crK at hk; omega
  clear hk
  rcases hways with ⟨hw1, hw2⟩ | ⟨hw1, hw2⟩
  all_goals
    go_enter Try.func14, Try.ntmps14
    go_wp2_with (first
      | (go_at_call 27; refine (HC.out _ ?_).mono ?_; (refine bel_out ?_; (focus (repeat' first | (with_reducible refine bel_refl ?_) | with_reducible assumption | with_reducible refine bel_drew ?_ | with_reducible refine bel_drewN _ ?_ | with_reducible refine bel_alloc _ ?_ | with_reducible refine bel_set ?_ _ ?_ | (with_reducible apply bel_call; with_reducible assumption) | with_reducible exact Nat.le_refl _ | omega | (simp; done) | (simp; omega)))); rintro e w2 ⟨v2, rfl, ⟨A3, n3, c3, rfl, ho3⟩, hb2⟩; obtain ⟨kc2, kf2, kz2, kh2⟩ := blk_cells hb2 (g := w.heap.size) (t := 24) (cs := #[.slice A n c, .int .i64 S]) (by (focus (repeat' first | with_reducible assumption | (with_reducible refine heap_drew ?_) | (with_reducible refine heap_drewN ?_) | (with_reducible refine heap_new ?_; focus (first | rfl | omega | (simp; done))) | (with_reducible refine heap_old ?_) | (with_reducible apply heap_near') | (show Array.setIfInBounds _ _ _ = _; rfl) | (with_reducible refine heap_far ?_ ?_; focus (first | omega | (simp; omega) | (simp; done))) | (with_reducible apply heap_call; with_reducible assumption)))); obtain ⟨kc3, kf3, kz3, kh3⟩ := blk_cells hb2 (g := w.heap.size + 1) (t := 24) (cs := #[.slice none 0 0, .int .i64 0]) (by (focus (repeat' first | with_reducible assumption | (with_reducible refine heap_drew ?_) | (with_reducible refine heap_drewN ?_) | (with_reducible refine heap_new ?_; focus (first | rfl | omega | (simp; done))) | (with_reducible refine heap_old ?_) | (with_reducible apply heap_near') | (show Array.setIfInBounds _ _ _ = _; rfl) | (with_reducible refine heap_far ?_ ?_; focus (first | omega | (simp; omega) | (simp; done))) | (with_reducible apply heap_call; with_reducible assumption)))); obtain rfl : n3 = n := (by rw [ho3.len, HLN.out]); have hcap3 := ho3.cap)
      | (go_at_call 20; refine (valid_any _ _ _ _ _).mono ?_; rintro e w4 ⟨rfl, hb4⟩; obtain ⟨kc4, kf4, kz4, kh4⟩ := blk_cells hb4 (g := w.heap.size) (t := 24) (cs := #[.slice A3 n3 c3, .int .i64 S]) (by (focus (repeat' first | with_reducible assumption | (with_reducible refine heap_drew ?_) | (with_reducible refine heap_drewN ?_) | (with_reducible refine heap_new ?_; focus (first | rfl | omega | (simp; done))) | (with_reducible refine heap_old ?_) | (with_reducible apply heap_near') | (show Array.setIfInBounds _ _ _ = _; rfl) | (with_reducible refine heap_far ?_ ?_; focus (first | omega | (simp; omega) | (simp; done))) | (with_reducible apply heap_call; with_reducible assumption)))); obtain ⟨kc5, kf5, kz5, kh5⟩ := blk_cells hb4 (g := w.heap.size + 1) (t := 24) (cs := #[.slice none 0 0, .int .i64 0]) (by (focus (repeat' first | with_reducible assumption | (with_reducible refine heap_drew ?_) | (with_reducible refine heap_drewN ?_) | (with_reducible refine heap_new ?_; focus (first | rfl | omega | (simp; done))) | (with_reducible refine heap_old ?_) | (with_reducible apply heap_near') | (show Array.setIfInBounds _ _ _ = _; rfl) | (with_reducible refine heap_far ?_ ?_; focus (first | omega | (simp; omega) | (simp; done))) | (with_reducible apply heap_call; with_reducible assumption))))))
    have hp := ho3.pre S (by omega)
    refine bodyPost_ret (v := .agg #[.slice A3 S c3, .int .i64 S]) ?_ rfl ⟨_, rfl, ⟨_, _, _, rfl, ?_⟩, ?_⟩
    · simp [results, Try.results14, go_sem, kc5, kc4]
    · apply OwB.mono; (focus (repeat' first | with_reducible assumption | (with_reducible apply OwB.drew) | (with_reducible apply OwB.drewN) | (with_reducible apply OwB.alloc) | (with_reducible apply OwB.stored) | (with_reducible apply OwB.set) | (with_reducible apply OwB.call; with_reducible assumption) | omega | (simp; done) | (simp; omega))); (focus (first | omega | (simp; done) | (simp; omega)))
    · (refine bel_out ?_; (focus (repeat' first | (with_reducible refine bel_refl ?_) | with_reducible assumption | with_reducible refine bel_drew ?_ | with_reducible refine bel_drewN _ ?_ | with_reducible refine bel_alloc _ ?_ | with_reducible refine bel_set ?_ _ ?_ | (with_reducible apply bel_call; with_reducible assumption) | with_reducible exact Nat.le_refl _ | omega | (simp; done) | (simp; omega))))

set_option maxHeartbeats 800000 in
theorem crash_pos (A : Option Addr) (n c S K : Nat) (l : List UInt8) (keep sp : Int) (w : World) (hr : RdB w A n c l) (h47 : n ≤ 140737488355328) (hv : validB n S = true) (hk : crK n S keep = (K + 1 : Nat)) :
    Calls Try.prog 14 #[.agg #[.slice A n c, .int .i64 S], .int .i64 keep, .int .i64 sp] w (RDisk w ((l.take (S + K + 1)).set (S + K) (l.getD (S + K) 0 ^^^ low8 sp)) ((S + K + 1 : Nat) : Int)) := by
  have HLN := Lib.hid hr.len
  have hcl : ∀ W : World, Below w.heap.size w W → Calls Try.prog 27 #[.slice A n c] W (ROwn W l) := fun W hW => clone_any A n c l W (hr.below hW) h47
  have HC := Lib.hid hcl
  clear hcl
  obtain ⟨v1, v2, v3⟩ := valid_le hv
  have hways : ((n : Int) - S < keep ∧ n = S + (K + 1)) ∨ (¬ ((n : Int) - S < keep) ∧ keep = ((K + 1 : Nat) : Int) ∧ S + K + 1 ≤ n) := by unfold crK at hk; omega
  clear hk
  obtain ⟨b, hb⟩ : ∃ b, l.getD (S + K) 0 ^^^ low8 sp = b := ⟨_, rfl⟩
  rw [hb]
  have hxor : bits .xor .u8 ((l[S + K]?.getD 0).toNat : Int) (sp % 256) = (b.toNat : Int) := by
    rw [← low8_toNat, xor_u8, ← hb, List.getD_eq_getElem?_getD]
  clear hb
  rcases hways with ⟨hw1, rfl⟩ | ⟨hw1, rfl, hw2⟩
  all_goals
    have hk0 : (0 : Int) < (K : Int) + 1 := by omega
    have hidx : (S : Int) + ((K : Int) + 1) - 1 = (S : Int) + K := by omega
    go_enter Try.func14, Try.ntmps14
    go_wp2_with (first
      | (go_at_call 27; refine (HC.out _ ?_).mono ?_; (refine bel_out ?_; (focus (repeat' first | (with_reducible refine bel_refl ?_) | with_reducible assumption | with_reducible refine bel_drew ?_ | with_reducible refine bel_drewN _ ?_ | with_reducible refine bel_alloc _ ?_ | with_reducible refine bel_set ?_ _ ?_ | (with_reducible apply bel_call; with_reducible assumption) | with_reducible exact Nat.le_refl _ | omega | (simp; done) | (simp; omega)))); rintro e w2 ⟨v2, rfl, ⟨A3, n3, c3, rfl, ho3⟩, hb2⟩; obtain ⟨kc2, kf2, kz2, kh2⟩ := blk_cells hb2 (g := w.heap.size) (t := 24) (cs := #[.slice A _ c, .int .i64 S]) (by (focus (repeat' first | with_reducible assumption | (with_reducible refine heap_drew ?_) | (with_reducible refine heap_drewN ?_) | (with_reducible refine heap_new ?_; focus (first | rfl | omega | (simp; done))) | (with_reducible refine heap_old ?_) | (with_reducible apply heap_near') | (show Array.setIfInBounds _ _ _ = _; rfl) | (with_reducible refine heap_far ?_ ?_; focus (first | omega | (simp; omega) | (simp; done))) | (with_reducible apply heap_call; with_reducible assumption)))); obtain ⟨kc3, kf3, kz3, kh3⟩ := blk_cells hb2 (g := w.heap.size + 1) (t := 24) (cs := #[.slice none 0 0, .int .i64 0]) (by (focus (repeat' first | with_reducible assumption | (with_reducible refine heap_drew ?_) | (with_reducible refine heap_drewN ?_) | (with_reducible refine heap_new ?_; focus (first | rfl | omega | (simp; done))) | (with_reducible refine heap_old ?_) | (with_reducible apply heap_near') | (show Array.setIfInBounds _ _ _ = _; rfl) | (with_reducible refine heap_far ?_ ?_; focus (first | omega | (simp; omega) | (simp; done))) | (with_reducible apply heap_call; with_reducible assumption)))); obtain hn3 := (ho3.len.trans HLN.out.symm); subst hn3; have hcap3 := ho3.cap)
      | (go_at_call 20; refine (valid_any _ _ _ _ _).mono ?_; rintro e w4 ⟨rfl, hb4⟩; obtain ⟨kc4, kf4, kz4, kh4⟩ := blk_cells hb4 (g := w.heap.size) (t := 24) (cs := #[.slice A3 _ c3, .int .i64 S]) (by (focus (repeat' first | with_reducible assumption | (with_reducible refine heap_drew ?_) | (with_reducible refine heap_drewN ?_) | (with_reducible refine heap_new ?_; focus (first | rfl | omega | (simp; done))) | (with_reducible refine heap_old ?_) | (with_reducible apply heap_near') | (show Array.setIfInBounds _ _ _ = _; rfl) | (with_reducible refine heap_far ?_ ?_; focus (first | omega | (simp; omega) | (simp; done))) | (with_reducible apply heap_call; with_reducible assumption)))); obtain ⟨kc5, kf5, kz5, kh5⟩ := blk_cells hb4 (g := w.heap.size + 1) (t := 24) (cs := #[.slice none 0 0, .int .i64 0]) (by (focus (repeat' first | with_reducible assumption | (with_reducible refine heap_drew ?_) | (with_reducible refine heap_drewN ?_) | (with_reducible refine heap_new ?_; focus (first | rfl | omega | (simp; done))) | (with_reducible refine heap_old ?_) | (with_reducible apply heap_near') | (show Array.setIfInBounds _ _ _ = _; rfl) | (with_reducible refine heap_far ?_ ?_; focus (first | omega | (simp; omega) | (simp; done))) | (with_reducible apply heap_call; with_reducible assumption)))); have ho4 : OwB w4 (w.heap.size + 2) 5 A3 _ c3 l := (OwB.call hb4 (OwB.set (OwB.mono ho3 (by simp)) (by simp))); obtain ⟨g, rfl, hg1, hg2, hcell, hfr⟩ := ho4.cellAt (S + K) (by omega); have hne : w.heap.size < g := (by omega)))
    have hp := ho4.pre (S + K + 1) (by omega)
    refine bodyPost_ret (v := .agg #[.slice (some ⟨g, 0, none⟩) (S + K + 1) c3, .int .i64 ((S + K + 1 : Nat) : Int)]) ?_ rfl ⟨_, rfl, ⟨_, _, _, rfl, ?_⟩, ?_⟩
    · simp [results, Try.results14, go_sem, kc5, kc4, Int.add_assoc, Nat.add_assoc]
    · apply OwB.mono; (focus (repeat' first | with_reducible assumption | (with_reducible apply OwB.drew) | (with_reducible apply OwB.drewN) | (with_reducible apply OwB.alloc) | (with_reducible apply OwB.stored) | (with_reducible apply OwB.set) | (with_reducible apply OwB.call; with_reducible assumption) | omega | (simp; done) | (simp; omega))); (focus (first | omega | (simp; done) | (simp; omega)))
    · (refine bel_out ?_; (focus (repeat' first | (with_reducible refine bel_refl ?_) | with_reducible assumption | with_reducible refine bel_drew ?_ | with_reducible refine bel_drewN _ ?_ | with_reducible refine bel_alloc _ ?_ | with_reducible refine bel_set ?_ _ ?_ | (with_reducible apply bel_call; with_reducible assumption) | with_reducible exact Nat.le_refl _ | omega | (simp; done) | (simp; omega))))
end Go.Proofs.Ytdfmdciopeklhaa
