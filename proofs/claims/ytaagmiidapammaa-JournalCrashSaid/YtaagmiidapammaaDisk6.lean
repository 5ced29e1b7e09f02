/- The walks of the reference's Crash. -/
import Derived.Test.YtaagmiidapammaaDisk4
import Derived.Test.YtaagmiidapammaaDisk5
namespace Go.Proofs.Ytaagmiidapammaa
open Go.RowKit
set_option linter.unusedSimpArgs false
set_option linter.unusedVariables false

theorem and255 (x : Int) : bits .and .i64 x 255 = x % 256 := by
  have e : (BitVec.ofInt 64 (255 : Int)).toNat = 255 := by decide
  show IntKind.i64.wrap ((BitVec.ofInt 64 x &&& BitVec.ofInt 64 255).toNat : Int) = _
  rw [BitVec.toNat_and, e, BitVec.toNat_ofInt, show (255 : Nat) = 2 ^ 8 - 1 from rfl, Nat.and_two_pow_sub_one_eq_mod, IntKind.wrap_i64]
  omega

set_option maxHeartbeats 800000 in
theorem rcrash_not (A : Option Addr) (n c : Nat) (l : List UInt8) (s keep sp : Int) (w : World) (hr : RdB w A n c l) (hv : validB n s = false) :
    Calls Try.prog 23 #[.agg #[.slice A n c, .int .i64 s], .int .i64 keep, .int .i64 sp] w (Ret w fun v _ => v = .agg #[.slice A n c, .int .i64 s]) := by
  go_enter Try.func23, Try.ntmps23
  go_wp2_with (go_at_call 36; refine (rvalid_any _ _ _ _ _).mono ?_; rintro e w4 ⟨rfl, hb4⟩; obtain ⟨kc4, kf4, kz4, kh4⟩ := blk_cells hb4 (g := w.heap.size) (t := 47) (cs := #[.slice A n c, .int .i64 s]) (by (focus (repeat' first | with_reducible assumption | (with_reducible refine heap_drew ?_) | (with_reducible refine heap_drewN ?_) | (with_reducible refine heap_new ?_; focus (first | rfl | omega | (simp; done))) | (with_reducible refine heap_old ?_) | (with_reducible apply heap_near') | ((with_reducible show Array.setIfInBounds _ _ _ = _); rfl) | (with_reducible refine heap_far ?_ ?_; focus (first | omega | (simp; omega) | (simp; done))) | (with_reducible apply heap_grown; with_reducible assumption; (focus (first | omega | (simp; omega)))) | (with_reducible apply heap_call; with_reducible assumption)))); obtain ⟨kc5, kf5, kz5, kh5⟩ := blk_cells hb4 (g := w.heap.size + 1) (t := 47) (cs := #[.slice none 0 0, .int .i64 0]) (by (focus (repeat' first | with_reducible assumption | (with_reducible refine heap_drew ?_) | (with_reducible refine heap_drewN ?_) | (with_reducible refine heap_new ?_; focus (first | rfl | omega | (simp; done))) | (with_reducible refine heap_old ?_) | (with_reducible apply heap_near') | ((with_reducible show Array.setIfInBounds _ _ _ = _); rfl) | (with_reducible refine heap_far ?_ ?_; focus (first | omega | (simp; omega) | (simp; done))) | (with_reducible apply heap_grown; with_reducible assumption; (focus (first | omega | (simp; omega)))) | (with_reducible apply heap_call; with_reducible assumption)))))
  refine bodyPost_ret (v := .agg #[.slice A n c, .int .i64 s]) ?_ rfl ⟨_, rfl, rfl, ?_⟩
  · simp [results, Try.results23, go_sem, kc5, kc4]
  · (refine bel_out ?_; (focus (repeat' first | (with_reducible refine bel_refl ?_) | with_reducible assumption | with_reducible refine bel_drew ?_ | with_reducible refine bel_drewN _ ?_ | with_reducible refine bel_alloc _ ?_ | with_reducible refine bel_set ?_ _ ?_ | (with_reducible apply bel_call; with_reducible assumption) | (with_reducible apply bel_owg; with_reducible assumption; (focus omega)) | with_reducible exact Nat.le_refl _ | omega | (simp; done) | (simp; omega))))

set_option maxHeartbeats 800000 in
theorem rcrash_zero (A : Option Addr) (n c S : Nat) (l : List UInt8) (keep sp : Int) (w : World) (hr : RdB w A n c l) (hv : validB n S = true) (hk : crK n S keep = 0) :
    Calls Try.prog 23 #[.agg #[.slice A n c, .int .i64 S], .int .i64 keep, .int .i64 sp] w (RDisk w (l.take S) S) := by
  obtain ⟨v1, v2, v3⟩ := valid_le hv
  have hrp := hr.pre S (by omega)
  have hcap := hr.cap
  have hS47 : S ≤ 140737488355328 := by omega
  obtain ⟨i0, hi0, hz0, hz1, hz2⟩ := u8_parts
  have hways : keep < 0 ∨ (¬ keep < 0 ∧ (n : Int) - S < keep ∧ S = n) ∨ (¬ (n : Int) - S < keep ∧ keep = 0) := by unfold crK at hk; omega
  clear hk
  rcases hways with hw0 | ⟨hw0, hw1, rfl⟩ | ⟨hw1, rfl⟩
  all_goals
    go_enter Try.func23, Try.ntmps23
    go_wp2_with (first
      | (go_at_call 36; refine (rvalid_any _ _ _ _ _).mono ?_; rintro e w4 ⟨rfl, hb4⟩; obtain ⟨kc4, kf4, kz4, kh4⟩ := blk_cells hb4 (g := w.heap.size) (t := 47) (cs := #[.slice A _ c, .int .i64 S]) (by (focus (repeat' first | with_reducible assumption | (with_reducible refine heap_drew ?_) | (with_reducible refine heap_drewN ?_) | (with_reducible refine heap_new ?_; focus (first | rfl | omega | (simp; done))) | (with_reducible refine heap_old ?_) | (with_reducible apply heap_near') | ((with_reducible show Array.setIfInBounds _ _ _ = _); rfl) | (with_reducible refine heap_far ?_ ?_; focus (first | omega | (simp; omega) | (simp; done))) | (with_reducible apply heap_grown; with_reducible assumption; (focus (first | omega | (simp; omega)))) | (with_reducible apply heap_call; with_reducible assumption)))); obtain ⟨kc5, kf5, kz5, kh5⟩ := blk_cells hb4 (g := w.heap.size + 1) (t := 47) (cs := #[.slice none 0 0, .int .i64 0]) (by (focus (repeat' first | with_reducible assumption | (with_reducible refine heap_drew ?_) | (with_reducible refine heap_drewN ?_) | (with_reducible refine heap_new ?_; focus (first | rfl | omega | (simp; done))) | (with_reducible refine heap_old ?_) | (with_reducible apply heap_near') | ((with_reducible show Array.setIfInBounds _ _ _ = _); rfl) | (with_reducible refine heap_far ?_ ?_; focus (first | omega | (simp; omega) | (simp; done))) | (with_reducible apply heap_grown; with_reducible assumption; (focus (first | omega | (simp; omega)))) | (with_reducible apply heap_call; with_reducible assumption)))))
      | (at_builtin; go_loud (refine wpList_append_b _ rfl (.const (.slice none 0 0)) (.tmp 28) _ rfl w4.heap.size 5 i0 Try.underlying22 hi0 hz0 hz1 hz2 none 0 0 [] rfl (OwB.nil _ _ _) A S c (l.take S) rfl ?_ ?_ ?_ ?_); (focus (refine RdB.below hrp ?_; (refine bel_out ?_; (focus (repeat' first | (with_reducible refine bel_refl ?_) | with_reducible assumption | with_reducible refine bel_drew ?_ | with_reducible refine bel_drewN _ ?_ | with_reducible refine bel_alloc _ ?_ | with_reducible refine bel_set ?_ _ ?_ | (with_reducible apply bel_call; with_reducible assumption) | (with_reducible apply bel_owg; with_reducible assumption; (focus omega)) | with_reducible exact Nat.le_refl _ | omega | (simp; done) | (simp; omega)))))); (focus omega); (focus (simp; done)); intro A3 c3 w2 ho3' hg3; have ho3 : OwB w2 w4.heap.size 5 A3 S c3 (l.take S) := (by simpa using ho3'); have hb2 : Below w4.heap.size w4 w2 := (Below.refl _ _).grown hg3 (by simp) (by simp [Value.ownBlock]); obtain ⟨kc6, kf6, kz6, kh6⟩ := blk_cells hb2 (g := w.heap.size + 1) (t := 47) (cs := #[.slice none 0 0, .int .i64 0]) (by (focus (repeat' first | with_reducible assumption | (with_reducible refine heap_drew ?_) | (with_reducible refine heap_drewN ?_) | (with_reducible refine heap_new ?_; focus (first | rfl | omega | (simp; done))) | (with_reducible refine heap_old ?_) | (with_reducible apply heap_near') | ((with_reducible show Array.setIfInBounds _ _ _ = _); rfl) | (with_reducible refine heap_far ?_ ?_; focus (first | omega | (simp; omega) | (simp; done))) | (with_reducible apply heap_grown; with_reducible assumption; (focus (first | omega | (simp; omega)))) | (with_reducible apply heap_call; with_reducible assumption)))); obtain ⟨kc7, kf7, kz7, kh7⟩ := blk_cells hb2 (g := w.heap.size) (t := 47) (cs := #[.slice A _ c, .int .i64 S]) (by (focus (repeat' first | with_reducible assumption | (with_reducible refine heap_drew ?_) | (with_reducible refine heap_drewN ?_) | (with_reducible refine heap_new ?_; focus (first | rfl | omega | (simp; done))) | (with_reducible refine heap_old ?_) | (with_reducible apply heap_near') | ((with_reducible show Array.setIfInBounds _ _ _ = _); rfl) | (with_reducible refine heap_far ?_ ?_; focus (first | omega | (simp; omega) | (simp; done))) | (with_reducible apply heap_grown; with_reducible assumption; (focus (first | omega | (simp; omega)))) | (with_reducible apply heap_call; with_reducible assumption))))))
    refine bodyPost_ret (v := .agg #[.slice A3 S c3, .int .i64 S]) ?_ rfl ⟨_, rfl, ⟨_, _, _, rfl, ?_⟩, ?_⟩
    · simp [results, Try.results23, go_sem, kc6, kc7]
    · apply OwB.mono; (focus (repeat' first | with_reducible assumption | (with_reducible apply OwB.drew) | (with_reducible apply OwB.drewN) | (with_reducible apply OwB.alloc) | (with_reducible apply OwB.stored) | (with_reducible apply OwB.set) | (with_reducible apply OwB.call; with_reducible assumption) | omega | (simp; done) | (simp; omega))); (focus (first | omega | (simp; done) | (simp; omega)))
    · (refine bel_out ?_; (focus (repeat' first | (with_reducible refine bel_refl ?_) | with_reducible assumption | with_reducible refine bel_drew ?_ | with_reducible refine bel_drewN _ ?_ | with_reducible refine bel_alloc _ ?_ | with_reducible refine bel_set ?_ _ ?_ | (with_reducible apply bel_call; with_reducible assumption) | (with_reducible apply bel_owg; with_reducible assumption; (focus omega)) | with_reducible exact Nat.le_refl _ | omega | (simp; done) | (simp; omega))))

set_option maxHeartbeats 1600000 in
theorem rcrash_pos (A : Option Addr) (n c S K : Nat) (l : List UInt8) (keep sp : Int) (w : World) (hr : RdB w A n c l) (hv : validB n S = true) (hk : crK n S keep = (K + 1 : Nat)) :
    Calls Try.prog 23 #[.agg #[.slice A n c, .int .i64 S], .int .i64 keep, .int .i64 sp] w (RDisk w ((l.take (S + K + 1)).set (S + K) (l.getD (S + K) 0 ^^^ low8 sp)) ((S + K + 1 : Nat) : Int)) := by
  obtain ⟨v1, v2, v3⟩ := valid_le hv
  have hkn : S + K + 1 ≤ n := by unfold crK at hk; omega
  have hrp := hr.pre (S + K + 1) hkn
  have hcap := hr.cap
  have hS47 : S + K + 1 ≤ 140737488355328 := by omega
  obtain ⟨i0, hi0, hz0, hz1, hz2⟩ := u8_parts
  have hways : (¬ keep < 0 ∧ (n : Int) - S < keep ∧ S + K + 1 = n) ∨ (¬ (n : Int) - S < keep ∧ ((K + 1 : Nat) : Int) = keep) := by unfold crK at hk; omega
  clear hk
  have hlen := hr.len
  have hget : (l.take (S + K + 1)).getD (S + K) 0 = l.getD (S + K) 0 := by
    rw [List.getD_eq_getElem?_getD, List.getD_eq_getElem?_getD, List.getElem?_take, if_pos (by omega)]
  clear hlen
  obtain ⟨b, hb⟩ : ∃ b, l.getD (S + K) 0 ^^^ low8 sp = b := ⟨_, rfl⟩
  rw [hb]
  have hxor : bits .xor .u8 ((l.getD (S + K) 0).toNat : Int) (sp % 256) = (b.toNat : Int) := by
    rw [← low8_toNat, xor_u8, ← hb]
  clear hb
  obtain ⟨x, hx⟩ : ∃ x, l.getD (S + K) 0 = x := ⟨_, rfl⟩
  rw [hx] at hget hxor
  clear hx
  have HG := Lib.hid hget
  clear hget
  have hand := and255 sp
  have hidx : (S : Int) + ((K : Int) + 1) - 1 = (S : Int) + K := by omega
  have hgt : (S : Int) < (S : Int) + ((K : Int) + 1) := by omega
  have hsum : (S : Int) + ((S : Int) + (K : Int) + 1 - (S : Int)) = (S : Int) + (K : Int) + 1 := by omega
  have hgt2 : (S : Int) < (S : Int) + (K : Int) + 1 := by omega
  rcases hways with ⟨hw0, hw1, rfl⟩ | ⟨hw1, rfl⟩
  all_goals
    go_enter Try.func23, Try.ntmps23
    go_wp2_with (first
      | (go_at_call 36; refine (rvalid_any _ _ _ _ _).mono ?_; rintro e w4 ⟨rfl, hb4⟩; obtain ⟨kc4, kf4, kz4, kh4⟩ := blk_cells hb4 (g := w.heap.size) (t := 47) (cs := #[.slice A _ c, .int .i64 S]) (by (focus (repeat' first | with_reducible assumption | (with_reducible refine heap_drew ?_) | (with_reducible refine heap_drewN ?_) | (with_reducible refine heap_new ?_; focus (first | rfl | omega | (simp; done))) | (with_reducible refine heap_old ?_) | (with_reducible apply heap_near') | ((with_reducible show Array.setIfInBounds _ _ _ = _); rfl) | (with_reducible refine heap_far ?_ ?_; focus (first | omega | (simp; omega) | (simp; done))) | (with_reducible apply heap_grown; with_reducible assumption; (focus (first | omega | (simp; omega)))) | (with_reducible apply heap_call; with_reducible assumption)))); obtain ⟨kc5, kf5, kz5, kh5⟩ := blk_cells hb4 (g := w.heap.size + 1) (t := 47) (cs := #[.slice none 0 0, .int .i64 0]) (by (focus (repeat' first | with_reducible assumption | (with_reducible refine heap_drew ?_) | (with_reducible refine heap_drewN ?_) | (with_reducible refine heap_new ?_; focus (first | rfl | omega | (simp; done))) | (with_reducible refine heap_old ?_) | (with_reducible apply heap_near') | ((with_reducible show Array.setIfInBounds _ _ _ = _); rfl) | (with_reducible refine heap_far ?_ ?_; focus (first | omega | (simp; omega) | (simp; done))) | (with_reducible apply heap_grown; with_reducible assumption; (focus (first | omega | (simp; omega)))) | (with_reducible apply heap_call; with_reducible assumption)))))
      | (at_builtin; go_loud (refine wpList_append_b _ rfl (.const (.slice none 0 0)) (.tmp 28) _ rfl w4.heap.size 5 i0 Try.underlying22 hi0 hz0 hz1 hz2 none 0 0 [] rfl (OwB.nil _ _ _) A (S + K + 1) c (l.take (S + K + 1)) rfl ?_ ?_ ?_ ?_); (focus (refine RdB.below hrp ?_; (refine bel_out ?_; (focus (repeat' first | (with_reducible refine bel_refl ?_) | with_reducible assumption | with_reducible refine bel_drew ?_ | with_reducible refine bel_drewN _ ?_ | with_reducible refine bel_alloc _ ?_ | with_reducible refine bel_set ?_ _ ?_ | (with_reducible apply bel_call; with_reducible assumption) | (with_reducible apply bel_owg; with_reducible assumption; (focus omega)) | with_reducible exact Nat.le_refl _ | omega | (simp; done) | (simp; omega)))))); (focus omega); (focus (simp; done)); intro A3 c3 w2 ho3' hg3; have ho3 : OwB w2 w4.heap.size 5 A3 (S + K + 1) c3 (l.take (S + K + 1)) := (by simpa using ho3'); clear ho3'; have hb2 : Below w4.heap.size w4 w2 := (Below.refl _ _).grown hg3 (by simp) (by simp [Value.ownBlock]); clear hg3; obtain ⟨kc6, kf6, kz6, kh6⟩ := blk_cells hb2 (g := w.heap.size + 1) (t := 47) (cs := #[.slice none 0 0, .int .i64 0]) (by (focus (repeat' first | with_reducible assumption | (with_reducible refine heap_drew ?_) | (with_reducible refine heap_drewN ?_) | (with_reducible refine heap_new ?_; focus (first | rfl | omega | (simp; done))) | (with_reducible refine heap_old ?_) | (with_reducible apply heap_near') | ((with_reducible show Array.setIfInBounds _ _ _ = _); rfl) | (with_reducible refine heap_far ?_ ?_; focus (first | omega | (simp; omega) | (simp; done))) | (with_reducible apply heap_grown; with_reducible assumption; (focus (first | omega | (simp; omega)))) | (with_reducible apply heap_call; with_reducible assumption)))); obtain ⟨kc7, kf7, kz7, kh7⟩ := blk_cells hb2 (g := w.heap.size) (t := 47) (cs := #[.slice A _ c, .int .i64 S]) (by (focus (repeat' first | with_reducible assumption | (with_reducible refine heap_drew ?_) | (with_reducible refine heap_drewN ?_) | (with_reducible refine heap_new ?_; focus (first | rfl | omega | (simp; done))) | (with_reducible refine heap_old ?_) | (with_reducible apply heap_near') | ((with_reducible show Array.setIfInBounds _ _ _ = _); rfl) | (with_reducible refine heap_far ?_ ?_; focus (first | omega | (simp; omega) | (simp; done))) | (with_reducible apply heap_grown; with_reducible assumption; (focus (first | omega | (simp; omega)))) | (with_reducible apply heap_call; with_reducible assumption)))); obtain ⟨g, rfl, hg1, hg2, hcell, hfr⟩ := ho3.cellAt (S + K) (by omega); rw [HG.out] at hcell; have hne : w.heap.size < g := (by omega); have hne1 : w.heap.size + 1 < g := (by omega)))
    have hp := ho3
    refine bodyPost_ret (v := .agg #[.slice (some ⟨g, 0, none⟩) (S + K + 1) c3, .int .i64 ((S + K + 1 : Nat) : Int)]) ?_ rfl ⟨_, rfl, ⟨_, _, _, rfl, ?_⟩, ?_⟩
    · simp [results, Try.results23, go_sem, kc6, kc7, Int.add_assoc, Nat.add_assoc]
      try omega
    · apply OwB.mono; (focus (repeat' first | with_reducible assumption | (with_reducible apply OwB.drew) | (with_reducible apply OwB.drewN) | (with_reducible apply OwB.alloc) | (with_reducible apply OwB.stored) | (with_reducible apply OwB.set) | (with_reducible apply OwB.call; with_reducible assumption) | omega | (simp; done) | (simp; omega))); (focus (first | omega | (simp; done) | (simp; omega)))
    · (refine bel_out ?_; (focus (repeat' first | (with_reducible refine bel_refl ?_) | with_reducible assumption | with_reducible refine bel_drew ?_ | with_reducible refine bel_drewN _ ?_ | with_reducible refine bel_alloc _ ?_ | with_reducible refine bel_set ?_ _ ?_ | (with_reducible apply bel_call; with_reducible assumption) | (with_reducible apply bel_owg; with_reducible assumption; (focus omega)) | with_reducible exact Nat.le_refl _ | omega | (simp; done) | (simp; omega))))

end Go.Proofs.Ytaagmiidapammaa
