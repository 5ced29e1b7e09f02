/- The walks of package disk and of its reference: the reference's Cut; Crash. -/
import Derived.Test.YtaagmiidapammaaDisk3
namespace Go.Proofs.Ytaagmiidapammaa
open Go.RowKit
set_option linter.unusedSimpArgs false
set_option linter.unusedVariables false

set_option maxHeartbeats 800000 in
theorem rcut_any (A : Option Addr) (n c : Nat) (l : List UInt8) (s k : Int) (w : World) (hr : RdB w A n c l) :
    Calls Try.prog 46 #[.agg #[.slice A n c, .int .i64 s], .int .i64 k] w (RDiskE w (cuL l s k) (cuS l s k) (cuE l s k)) := by
  have hln := hr.len
  have hcap := hr.cap
  have hmax := hr.max
  cases hv : validB n s with
  | false =>
    have e1 : cuL l s k = [] := by simp [cuL, ← hln, hv]
    have e2 : cuS l s k = 0 := by simp [cuS, ← hln, hv]
    have e3 : cuE l s k = 11 := by simp [cuE, ← hln, hv]
    rw [e1, e2, e3]
    clear e1 e2 e3 hln hcap hmax
    go_enter Try.func46, Try.ntmps46
    go_wp2_with (go_at_call 36; refine (rvalid_any _ _ _ _ _).mono ?_; rintro e w4 ⟨rfl, hb4⟩; obtain ⟨kc4, kf4, kz4, kh4⟩ := blk_cells hb4 (g := w.heap.size) (t := 47) (cs := #[.slice A n c, .int .i64 s]) (by (focus (repeat' first | with_reducible assumption | (with_reducible refine heap_drew ?_) | (with_reducible refine heap_drewN ?_) | (with_reducible refine heap_new ?_; focus (first | rfl | omega | (simp; done))) | (with_reducible refine heap_old ?_) | (with_reducible apply heap_near') | ((with_reducible show Array.setIfInBounds _ _ _ = _); rfl) | (with_reducible refine heap_far ?_ ?_; focus (first | omega | (simp; omega) | (simp; done))) | (with_reducible apply heap_grown; with_reducible assumption; (focus (first | omega | (simp; omega)))) | (with_reducible apply heap_call; with_reducible assumption)))); obtain ⟨kc5, kf5, kz5, kh5⟩ := blk_cells hb4 (g := w.heap.size + 1) (t := 47) (cs := #[.slice none 0 0, .int .i64 0]) (by (focus (repeat' first | with_reducible assumption | (with_reducible refine heap_drew ?_) | (with_reducible refine heap_drewN ?_) | (with_reducible refine heap_new ?_; focus (first | rfl | omega | (simp; done))) | (with_reducible refine heap_old ?_) | (with_reducible apply heap_near') | ((with_reducible show Array.setIfInBounds _ _ _ = _); rfl) | (with_reducible refine heap_far ?_ ?_; focus (first | omega | (simp; omega) | (simp; done))) | (with_reducible apply heap_grown; with_reducible assumption; (focus (first | omega | (simp; omega)))) | (with_reducible apply heap_call; with_reducible assumption)))))
    refine bodyPost_ret (v := .tuple #[.agg #[.slice none 0 0, .int .i64 0], .int .i64 11]) ?_ rfl ⟨_, rfl, ⟨_, rfl, ⟨_, _, _, rfl, OwB.nil _ _ _⟩⟩, ?_⟩
    · simp [results, Try.results46, go_sem, kc5, kc4]
    · (refine bel_out ?_; (focus (repeat' first | (with_reducible refine bel_refl ?_) | with_reducible assumption | with_reducible refine bel_drew ?_ | with_reducible refine bel_drewN _ ?_ | with_reducible refine bel_alloc _ ?_ | with_reducible refine bel_set ?_ _ ?_ | (with_reducible apply bel_call; with_reducible assumption) | (with_reducible apply bel_owg; with_reducible assumption; (focus omega)) | with_reducible exact Nat.le_refl _ | omega | (simp; done) | (simp; omega))))
  | true =>
    obtain ⟨v1, v2, v3⟩ := valid_le hv
    by_cases hk0 : k < 0
    · have e0 : inB n k = false := by simp [inB]; omega
      have e1 : cuL l s k = [] := by simp [cuL, ← hln, hv, e0]
      have e2 : cuS l s k = 0 := by simp [cuS, ← hln, hv, e0]
      have e3 : cuE l s k = 2 := by simp [cuE, ← hln, hv, e0]
      rw [e1, e2, e3]
      have hk1 : decide (k < 0) = true := by simpa using hk0
      clear e1 e2 e3 hln hcap hmax e0
      go_enter Try.func46, Try.ntmps46
      go_wp2_with (go_at_call 36; refine (rvalid_any _ _ _ _ _).mono ?_; rintro e w4 ⟨rfl, hb4⟩; obtain ⟨kc4, kf4, kz4, kh4⟩ := blk_cells hb4 (g := w.heap.size) (t := 47) (cs := #[.slice A n c, .int .i64 s]) (by (focus (repeat' first | with_reducible assumption | (with_reducible refine heap_drew ?_) | (with_reducible refine heap_drewN ?_) | (with_reducible refine heap_new ?_; focus (first | rfl | omega | (simp; done))) | (with_reducible refine heap_old ?_) | (with_reducible apply heap_near') | ((with_reducible show Array.setIfInBounds _ _ _ = _); rfl) | (with_reducible refine heap_far ?_ ?_; focus (first | omega | (simp; omega) | (simp; done))) | (with_reducible apply heap_grown; with_reducible assumption; (focus (first | omega | (simp; omega)))) | (with_reducible apply heap_call; with_reducible assumption)))); obtain ⟨kc5, kf5, kz5, kh5⟩ := blk_cells hb4 (g := w.heap.size + 1) (t := 47) (cs := #[.slice none 0 0, .int .i64 0]) (by (focus (repeat' first | with_reducible assumption | (with_reducible refine heap_drew ?_) | (with_reducible refine heap_drewN ?_) | (with_reducible refine heap_new ?_; focus (first | rfl | omega | (simp; done))) | (with_reducible refine heap_old ?_) | (with_reducible apply heap_near') | ((with_reducible show Array.setIfInBounds _ _ _ = _); rfl) | (with_reducible refine heap_far ?_ ?_; focus (first | omega | (simp; omega) | (simp; done))) | (with_reducible apply heap_grown; with_reducible assumption; (focus (first | omega | (simp; omega)))) | (with_reducible apply heap_call; with_reducible assumption)))))
      refine bodyPost_ret (v := .tuple #[.agg #[.slice none 0 0, .int .i64 0], .int .i64 2]) ?_ rfl ⟨_, rfl, ⟨_, rfl, ⟨_, _, _, rfl, OwB.nil _ _ _⟩⟩, ?_⟩
      · simp [results, Try.results46, go_sem, kc5, kc4]
      · (refine bel_out ?_; (focus (repeat' first | (with_reducible refine bel_refl ?_) | with_reducible assumption | with_reducible refine bel_drew ?_ | with_reducible refine bel_drewN _ ?_ | with_reducible refine bel_alloc _ ?_ | with_reducible refine bel_set ?_ _ ?_ | (with_reducible apply bel_call; with_reducible assumption) | (with_reducible apply bel_owg; with_reducible assumption; (focus omega)) | with_reducible exact Nat.le_refl _ | omega | (simp; done) | (simp; omega))))
    · have hk1 : decide (k < 0) = false := by simpa using hk0
      obtain ⟨m, rfl⟩ := Int.eq_ofNat_of_zero_le (by omega : 0 ≤ k)
      by_cases hkn : m ≤ n
      · have e0 : inB n (m : Int) = true := by simp [inB]; omega
        have e1 : cuL l s m = l.take m := by simp [cuL, ← hln, hv, e0]
        have e2 : cuS l s m = min s m := by simp [cuS, ← hln, hv, e0]
        have e3 : cuE l s m = 0 := by simp [cuE, ← hln, hv, e0]
        rw [e1, e2, e3]
        have hk2 : decide (n < m) = false := by simp; omega
        have hrp := hr.pre m hkn
        obtain ⟨i0, hi0, hz0', hz1', hz2'⟩ := u8_parts
        have hmc : (m : Int) ≤ (c : Int) := by omega
        clear e1 e2 e3 hln e0
        by_cases hsm : (m : Int) < s
        all_goals
          first | rw [show min s (m : Int) = (m : Int) from by omega] | rw [show min s (m : Int) = s from by omega]
          go_enter Try.func46, Try.ntmps46
          go_wp2_with (go_at_call 36; refine (rvalid_any _ _ _ _ _).mono ?_; rintro e w4 ⟨rfl, hb4⟩; obtain ⟨kc4, kf4, kz4, kh4⟩ := blk_cells hb4 (g := w.heap.size) (t := 47) (cs := #[.slice A n c, .int .i64 s]) (by (focus (repeat' first | with_reducible assumption | (with_reducible refine heap_drew ?_) | (with_reducible refine heap_drewN ?_) | (with_reducible refine heap_new ?_; focus (first | rfl | omega | (simp; done))) | (with_reducible refine heap_old ?_) | (with_reducible apply heap_near') | ((with_reducible show Array.setIfInBounds _ _ _ = _); rfl) | (with_reducible refine heap_far ?_ ?_; focus (first | omega | (simp; omega) | (simp; done))) | (with_reducible apply heap_grown; with_reducible assumption; (focus (first | omega | (simp; omega)))) | (with_reducible apply heap_call; with_reducible assumption)))); obtain ⟨kc5, kf5, kz5, kh5⟩ := blk_cells hb4 (g := w.heap.size + 1) (t := 47) (cs := #[.slice none 0 0, .int .i64 0]) (by (focus (repeat' first | with_reducible assumption | (with_reducible refine heap_drew ?_) | (with_reducible refine heap_drewN ?_) | (with_reducible refine heap_new ?_; focus (first | rfl | omega | (simp; done))) | (with_reducible refine heap_old ?_) | (with_reducible apply heap_near') | ((with_reducible show Array.setIfInBounds _ _ _ = _); rfl) | (with_reducible refine heap_far ?_ ?_; focus (first | omega | (simp; omega) | (simp; done))) | (with_reducible apply heap_grown; with_reducible assumption; (focus (first | omega | (simp; omega)))) | (with_reducible apply heap_call; with_reducible assumption)))))
          have hS : ∀ W : World, Bel (w.heap.size + 1) w4 W → W.cell? ⟨w.heap.size, 0, none⟩ = some (.slice A n c) ∧ W.cell? ⟨w.heap.size, 1, none⟩ = some (.int .i64 s) := by
            intro W hW
            exact ⟨(hW.2.cell (p := ⟨w.heap.size, 0, none⟩) (by simp)).trans (kc4 0), (hW.2.cell (p := ⟨w.heap.size, 1, none⟩) (by simp)).trans (kc4 1)⟩
          have HK := Lib.hid hS
          clear hS
          go_region_held3 (fun w' => w'.cell? ⟨w.heap.size, 0, none⟩ = some (.slice A n c) ∧ w'.cell? ⟨w.heap.size, 1, none⟩ = some (.int .i64 s))
            ((refine HK.out _ ?_; (focus (repeat' first | (with_reducible refine bel_refl ?_) | with_reducible assumption | with_reducible refine bel_drew ?_ | with_reducible refine bel_drewN _ ?_ | with_reducible refine bel_alloc _ ?_ | with_reducible refine bel_set ?_ _ ?_ | (with_reducible apply bel_call; with_reducible assumption) | (with_reducible apply bel_owg; with_reducible assumption; (focus omega)) | with_reducible exact Nat.le_refl _ | omega | (simp; done) | (simp; omega))); done))
            ((refine step_append_b _ ?_ (.const (.slice none 0 0)) (.tmp 23) 22 ?_ w4.heap.size 5 i0 Try.underlying22 hi0 hz0' hz1' hz2' none 0 0 [] ?_ (OwB.nil _ _ _) A m c (l.take m) ?_ ?_ ?_ ?_ ?_; rfl; rfl; rfl; rfl; (focus (refine RdB.below hrp ?_; (refine bel_out ?_; (focus (repeat' first | (with_reducible refine bel_refl ?_) | with_reducible assumption | with_reducible refine bel_drew ?_ | with_reducible refine bel_drewN _ ?_ | with_reducible refine bel_alloc _ ?_ | with_reducible refine bel_set ?_ _ ?_ | (with_reducible apply bel_call; with_reducible assumption) | (with_reducible apply bel_owg; with_reducible assumption; (focus omega)) | with_reducible exact Nat.le_refl _ | omega | (simp; done) | (simp; omega)))))); (focus omega); (focus (simp; done)); intro A3 c3 w2 ho3' hg3; have ho3 : OwB w2 w4.heap.size 5 A3 m c3 (l.take m) := (by simpa using ho3'); have hb2 : Below w4.heap.size w4 w2 := ((Below.refl _ _).drew).grown hg3 (by simp) (by simp [Value.ownBlock]); obtain ⟨kc6, kf6, kz6, kh6⟩ := blk_cells hb2 (g := w.heap.size + 1) (t := 47) (cs := #[.slice none 0 0, .int .i64 0]) (by (focus (repeat' first | with_reducible assumption | (with_reducible refine heap_drew ?_) | (with_reducible refine heap_drewN ?_) | (with_reducible refine heap_new ?_; focus (first | rfl | omega | (simp; done))) | (with_reducible refine heap_old ?_) | (with_reducible apply heap_near') | ((with_reducible show Array.setIfInBounds _ _ _ = _); rfl) | (with_reducible refine heap_far ?_ ?_; focus (first | omega | (simp; omega) | (simp; done))) | (with_reducible apply heap_grown; with_reducible assumption; (focus (first | omega | (simp; omega)))) | (with_reducible apply heap_call; with_reducible assumption))))))
          all_goals
            go_wp2
            refine bodyPost_ret (v := .tuple #[.agg #[.slice A3 m c3, .int .i64 _], .int .i64 0]) ?_ rfl ⟨_, rfl, ⟨_, rfl, ⟨_, _, _, rfl, ?_⟩⟩, ?_⟩
            · simp [results, Try.results46, go_sem, kc6]
            · apply OwB.mono; (focus (repeat' first | with_reducible assumption | (with_reducible apply OwB.drew) | (with_reducible apply OwB.drewN) | (with_reducible apply OwB.alloc) | (with_reducible apply OwB.stored) | (with_reducible apply OwB.set) | (with_reducible apply OwB.call; with_reducible assumption) | omega | (simp; done) | (simp; omega))); (focus (first | omega | (simp; done) | (simp; omega)))
            · (refine bel_out ?_; (focus (repeat' first | (with_reducible refine bel_refl ?_) | with_reducible assumption | with_reducible refine bel_drew ?_ | with_reducible refine bel_drewN _ ?_ | with_reducible refine bel_alloc _ ?_ | with_reducible refine bel_set ?_ _ ?_ | (with_reducible apply bel_call; with_reducible assumption) | (with_reducible apply bel_owg; with_reducible assumption; (focus omega)) | with_reducible exact Nat.le_refl _ | omega | (simp; done) | (simp; omega))))
      · have e0 : inB n (m : Int) = false := by simp [inB]; omega
        have e1 : cuL l s m = [] := by simp [cuL, ← hln, hv, e0]
        have e2 : cuS l s m = 0 := by simp [cuS, ← hln, hv, e0]
        have e3 : cuE l s m = 2 := by simp [cuE, ← hln, hv, e0]
        rw [e1, e2, e3]
        have hk2 : decide (n < m) = true := by simp; omega
        clear e1 e2 e3 hln hcap hmax e0
        go_enter Try.func46, Try.ntmps46
        go_wp2_with (go_at_call 36; refine (rvalid_any _ _ _ _ _).mono ?_; rintro e w4 ⟨rfl, hb4⟩; obtain ⟨kc4, kf4, kz4, kh4⟩ := blk_cells hb4 (g := w.heap.size) (t := 47) (cs := #[.slice A n c, .int .i64 s]) (by (focus (repeat' first | with_reducible assumption | (with_reducible refine heap_drew ?_) | (with_reducible refine heap_drewN ?_) | (with_reducible refine heap_new ?_; focus (first | rfl | omega | (simp; done))) | (with_reducible refine heap_old ?_) | (with_reducible apply heap_near') | ((with_reducible show Array.setIfInBounds _ _ _ = _); rfl) | (with_reducible refine heap_far ?_ ?_; focus (first | omega | (simp; omega) | (simp; done))) | (with_reducible apply heap_grown; with_reducible assumption; (focus (first | omega | (simp; omega)))) | (with_reducible apply heap_call; with_reducible assumption)))); obtain ⟨kc5, kf5, kz5, kh5⟩ := blk_cells hb4 (g := w.heap.size + 1) (t := 47) (cs := #[.slice none 0 0, .int .i64 0]) (by (focus (repeat' first | with_reducible assumption | (with_reducible refine heap_drew ?_) | (with_reducible refine heap_drewN ?_) | (with_reducible refine heap_new ?_; focus (first | rfl | omega | (simp; done))) | (with_reducible refine heap_old ?_) | (with_reducible apply heap_near') | ((with_reducible show Array.setIfInBounds _ _ _ = _); rfl) | (with_reducible refine heap_far ?_ ?_; focus (first | omega | (simp; omega) | (simp; done))) | (with_reducible apply heap_grown; with_reducible assumption; (focus (first | omega | (simp; omega)))) | (with_reducible apply heap_call; with_reducible assumption)))))
        refine bodyPost_ret (v := .tuple #[.agg #[.slice none 0 0, .int .i64 0], .int .i64 2]) ?_ rfl ⟨_, rfl, ⟨_, rfl, ⟨_, _, _, rfl, OwB.nil _ _ _⟩⟩, ?_⟩
        · simp [results, Try.results46, go_sem, kc5, kc4]
        · (refine bel_out ?_; (focus (repeat' first | (with_reducible refine bel_refl ?_) | with_reducible assumption | with_reducible refine bel_drew ?_ | with_reducible refine bel_drewN _ ?_ | with_reducible refine bel_alloc _ ?_ | with_reducible refine bel_set ?_ _ ?_ | (with_reducible apply bel_call; with_reducible assumption) | (with_reducible apply bel_owg; with_reducible assumption; (focus omega)) | with_reducible exact Nat.le_refl _ | omega | (simp; done) | (simp; omega))))

end Go.Proofs.Ytaagmiidapammaa
