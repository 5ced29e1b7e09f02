/- The walks of package disk and of its reference: Sync, Cut. -/
import Derived.Test.YtaagmiidapammaaDisk2
namespace Go.Proofs.Ytaagmiidapammaa
open Go.RowKit
set_option linter.unusedSimpArgs false
set_option linter.unusedVariables false

def RDisk (w : World) (l : List UInt8) (s : Int) : Ending → World → Prop := Ret w fun d w' => DiskO w' w.heap.size d l s

def syS (l : List UInt8) (s : Int) : Int := if validB l.length s = true then (l.length : Int) else s

set_option maxHeartbeats 800000 in
theorem sync_any (A : Option Addr) (n c : Nat) (l : List UInt8) (s : Int) (w : World) (hr : RdB w A n c l) (h47 : n ≤ 140737488355328) :
    Calls Try.prog 39 #[.agg #[.slice A n c, .int .i64 s]] w (RDisk w l (syS l s)) := by
  have hln := hr.len
  have hcl : ∀ W : World, Below w.heap.size w W → Calls Try.prog 31 #[.slice A n c] W (ROwn W l) := fun W hW => clone_any A n c l W (hr.below hW) h47
  have HC := Lib.hid hcl
  clear hcl
  obtain ⟨S, es⟩ : ∃ S, syS l s = S := ⟨_, rfl⟩
  rw [es]
  unfold syS at es
  rw [← hln] at es
  have HLN := Lib.hid hln
  clear hln
  cases hv : validB n s
  all_goals
    rw [hv] at es
    simp only [if_true, if_false, Bool.false_eq_true] at es
    subst es
    go_enter Try.func39, Try.ntmps39
    go_wp2_with (first
      | (go_at_call 31; refine (HC.out _ ?_).mono ?_; (refine bel_out ?_; (focus (repeat' first | (with_reducible refine bel_refl ?_) | with_reducible assumption | with_reducible refine bel_drew ?_ | with_reducible refine bel_drewN _ ?_ | with_reducible refine bel_alloc _ ?_ | with_reducible refine bel_set ?_ _ ?_ | (with_reducible apply bel_call; with_reducible assumption) | (with_reducible apply bel_owg; with_reducible assumption; (focus omega)) | with_reducible exact Nat.le_refl _ | omega | (simp; done) | (simp; omega)))); rintro e w2 ⟨v2, rfl, ⟨A3, n3, c3, rfl, ho3⟩, hb2⟩; obtain ⟨kc2, kf2, kz2, kh2⟩ := blk_cells hb2 (g := w.heap.size) (t := 47) (cs := #[.slice A n c, .int .i64 s]) (by (focus (repeat' first | with_reducible assumption | (with_reducible refine heap_drew ?_) | (with_reducible refine heap_drewN ?_) | (with_reducible refine heap_new ?_; focus (first | rfl | omega | (simp; done))) | (with_reducible refine heap_old ?_) | (with_reducible apply heap_near') | ((with_reducible show Array.setIfInBounds _ _ _ = _); rfl) | (with_reducible refine heap_far ?_ ?_; focus (first | omega | (simp; omega) | (simp; done))) | (with_reducible apply heap_grown; with_reducible assumption; (focus (first | omega | (simp; omega)))) | (with_reducible apply heap_call; with_reducible assumption)))); obtain ⟨kc3, kf3, kz3, kh3⟩ := blk_cells hb2 (g := w.heap.size + 1) (t := 47) (cs := #[.slice none 0 0, .int .i64 0]) (by (focus (repeat' first | with_reducible assumption | (with_reducible refine heap_drew ?_) | (with_reducible refine heap_drewN ?_) | (with_reducible refine heap_new ?_; focus (first | rfl | omega | (simp; done))) | (with_reducible refine heap_old ?_) | (with_reducible apply heap_near') | ((with_reducible show Array.setIfInBounds _ _ _ = _); rfl) | (with_reducible refine heap_far ?_ ?_; focus (first | omega | (simp; omega) | (simp; done))) | (with_reducible apply heap_grown; with_reducible assumption; (focus (first | omega | (simp; omega)))) | (with_reducible apply heap_call; with_reducible assumption)))); obtain rfl : n3 = n := (by rw [ho3.len, HLN.out]))
      | (go_at_call 37; refine (valid_any _ _ _ _ _).mono ?_; rintro e w4 ⟨rfl, hb4⟩; obtain ⟨kc4, kf4, kz4, kh4⟩ := blk_cells hb4 (g := w.heap.size) (t := 47) (cs := #[.slice A3 n3 c3, .int .i64 s]) (by (focus (repeat' first | with_reducible assumption | (with_reducible refine heap_drew ?_) | (with_reducible refine heap_drewN ?_) | (with_reducible refine heap_new ?_; focus (first | rfl | omega | (simp; done))) | (with_reducible refine heap_old ?_) | (with_reducible apply heap_near') | ((with_reducible show Array.setIfInBounds _ _ _ = _); rfl) | (with_reducible refine heap_far ?_ ?_; focus (first | omega | (simp; omega) | (simp; done))) | (with_reducible apply heap_grown; with_reducible assumption; (focus (first | omega | (simp; omega)))) | (with_reducible apply heap_call; with_reducible assumption)))); obtain ⟨kc5, kf5, kz5, kh5⟩ := blk_cells hb4 (g := w.heap.size + 1) (t := 47) (cs := #[.slice none 0 0, .int .i64 0]) (by (focus (repeat' first | with_reducible assumption | (with_reducible refine heap_drew ?_) | (with_reducible refine heap_drewN ?_) | (with_reducible refine heap_new ?_; focus (first | rfl | omega | (simp; done))) | (with_reducible refine heap_old ?_) | (with_reducible apply heap_near') | ((with_reducible show Array.setIfInBounds _ _ _ = _); rfl) | (with_reducible refine heap_far ?_ ?_; focus (first | omega | (simp; omega) | (simp; done))) | (with_reducible apply heap_grown; with_reducible assumption; (focus (first | omega | (simp; omega)))) | (with_reducible apply heap_call; with_reducible assumption))))))
  · refine bodyPost_ret (v := .agg #[.slice A3 n3 c3, .int .i64 s]) ?_ rfl ⟨_, rfl, ⟨_, _, _, rfl, ?_⟩, ?_⟩
    · simp [results, Try.results39, go_sem, kc5, kc4]
    · apply OwB.mono; (focus (repeat' first | with_reducible assumption | (with_reducible apply OwB.drew) | (with_reducible apply OwB.drewN) | (with_reducible apply OwB.alloc) | (with_reducible apply OwB.stored) | (with_reducible apply OwB.set) | (with_reducible apply OwB.call; with_reducible assumption) | omega | (simp; done) | (simp; omega))); (focus (first | omega | (simp; done) | (simp; omega)))
    · (refine bel_out ?_; (focus (repeat' first | (with_reducible refine bel_refl ?_) | with_reducible assumption | with_reducible refine bel_drew ?_ | with_reducible refine bel_drewN _ ?_ | with_reducible refine bel_alloc _ ?_ | with_reducible refine bel_set ?_ _ ?_ | (with_reducible apply bel_call; with_reducible assumption) | (with_reducible apply bel_owg; with_reducible assumption; (focus omega)) | with_reducible exact Nat.le_refl _ | omega | (simp; done) | (simp; omega))))
  · refine bodyPost_ret (v := .agg #[.slice A3 n3 c3, .int .i64 n3]) ?_ rfl ⟨_, rfl, ⟨_, _, _, rfl, ?_⟩, ?_⟩
    · simp [results, Try.results39, go_sem, kc5, kc4]
    · apply OwB.mono; (focus (repeat' first | with_reducible assumption | (with_reducible apply OwB.drew) | (with_reducible apply OwB.drewN) | (with_reducible apply OwB.alloc) | (with_reducible apply OwB.stored) | (with_reducible apply OwB.set) | (with_reducible apply OwB.call; with_reducible assumption) | omega | (simp; done) | (simp; omega))); (focus (first | omega | (simp; done) | (simp; omega)))
    · (refine bel_out ?_; (focus (repeat' first | (with_reducible refine bel_refl ?_) | with_reducible assumption | with_reducible refine bel_drew ?_ | with_reducible refine bel_drewN _ ?_ | with_reducible refine bel_alloc _ ?_ | with_reducible refine bel_set ?_ _ ?_ | (with_reducible apply bel_call; with_reducible assumption) | (with_reducible apply bel_owg; with_reducible assumption; (focus omega)) | with_reducible exact Nat.le_refl _ | omega | (simp; done) | (simp; omega))))

set_option maxHeartbeats 800000 in
theorem rsync_any (A : Option Addr) (n c : Nat) (l : List UInt8) (s : Int) (w : World) (hr : RdB w A n c l) :
    Calls Try.prog 47 #[.agg #[.slice A n c, .int .i64 s]] w (Ret w fun v _ => v = .agg #[.slice A n c, .int .i64 (syS l s)]) := by
  have hln := hr.len
  obtain ⟨S, es⟩ : ∃ S, syS l s = S := ⟨_, rfl⟩
  rw [es]
  unfold syS at es
  rw [← hln] at es
  clear hln
  cases hv : validB n s
  all_goals
    rw [hv] at es
    simp only [if_true, if_false, Bool.false_eq_true] at es
    subst es
    go_enter Try.func47, Try.ntmps47
    go_wp2_with (go_at_call 36; refine (rvalid_any _ _ _ _ _).mono ?_; rintro e w4 ⟨rfl, hb4⟩; obtain ⟨kc4, kf4, kz4, kh4⟩ := blk_cells hb4 (g := w.heap.size) (t := 47) (cs := #[.slice A n c, .int .i64 s]) (by (focus (repeat' first | with_reducible assumption | (with_reducible refine heap_drew ?_) | (with_reducible refine heap_drewN ?_) | (with_reducible refine heap_new ?_; focus (first | rfl | omega | (simp; done))) | (with_reducible refine heap_old ?_) | (with_reducible apply heap_near') | ((with_reducible show Array.setIfInBounds _ _ _ = _); rfl) | (with_reducible refine heap_far ?_ ?_; focus (first | omega | (simp; omega) | (simp; done))) | (with_reducible apply heap_grown; with_reducible assumption; (focus (first | omega | (simp; omega)))) | (with_reducible apply heap_call; with_reducible assumption)))); obtain ⟨kc5, kf5, kz5, kh5⟩ := blk_cells hb4 (g := w.heap.size + 1) (t := 47) (cs := #[.slice none 0 0, .int .i64 0]) (by (focus (repeat' first | with_reducible assumption | (with_reducible refine heap_drew ?_) | (with_reducible refine heap_drewN ?_) | (with_reducible refine heap_new ?_; focus (first | rfl | omega | (simp; done))) | (with_reducible refine heap_old ?_) | (with_reducible apply heap_near') | ((with_reducible show Array.setIfInBounds _ _ _ = _); rfl) | (with_reducible refine heap_far ?_ ?_; focus (first | omega | (simp; omega) | (simp; done))) | (with_reducible apply heap_grown; with_reducible assumption; (focus (first | omega | (simp; omega)))) | (with_reducible apply heap_call; with_reducible assumption)))))
  · refine bodyPost_ret (v := .agg #[.slice A n c, .int .i64 s]) ?_ rfl ⟨_, rfl, rfl, ?_⟩
    · simp [results, Try.results47, go_sem, kc5, kc4]
    · (refine bel_out ?_; (focus (repeat' first | (with_reducible refine bel_refl ?_) | with_reducible assumption | with_reducible refine bel_drew ?_ | with_reducible refine bel_drewN _ ?_ | with_reducible refine bel_alloc _ ?_ | with_reducible refine bel_set ?_ _ ?_ | (with_reducible apply bel_call; with_reducible assumption) | (with_reducible apply bel_owg; with_reducible assumption; (focus omega)) | with_reducible exact Nat.le_refl _ | omega | (simp; done) | (simp; omega))))
  · refine bodyPost_ret (v := .agg #[.slice A n c, .int .i64 n]) ?_ rfl ⟨_, rfl, rfl, ?_⟩
    · simp [results, Try.results47, go_sem, kc5, kc4]
    · (refine bel_out ?_; (focus (repeat' first | (with_reducible refine bel_refl ?_) | with_reducible assumption | with_reducible refine bel_drew ?_ | with_reducible refine bel_drewN _ ?_ | with_reducible refine bel_alloc _ ?_ | with_reducible refine bel_set ?_ _ ?_ | (with_reducible apply bel_call; with_reducible assumption) | (with_reducible apply bel_owg; with_reducible assumption; (focus omega)) | with_reducible exact Nat.le_refl _ | omega | (simp; done) | (simp; omega))))

def inB (n : Nat) (k : Int) : Bool := decide (0 ≤ k ∧ k ≤ n)
def cuE (l : List UInt8) (s k : Int) : Int := if validB l.length s = true then (if inB l.length k = true then 0 else 2) else 11
def cuL (l : List UInt8) (s k : Int) : List UInt8 := if validB l.length s = true then (if inB l.length k = true then l.take k.toNat else []) else []
def cuS (l : List UInt8) (s k : Int) : Int := if validB l.length s = true then (if inB l.length k = true then min s k else 0) else 0

/-- the first k bytes of a slice that came in -/
theorem RdB.pre {w : World} {A : Option Addr} {n c : Nat} {l : List UInt8} (h : RdB w A n c l) (k : Nat) (hk : k ≤ n) : RdB w A k c (l.take k) := by
  refine ⟨by rw [List.length_take, ← h.len]; omega, Nat.le_trans hk h.cap, h.max, ?_⟩
  refine ⟨by rw [length_bs, List.length_take, ← h.len]; omega, fun h0 => ?_⟩
  obtain ⟨ad, e, hb, hc⟩ := h.reads.2 (by omega)
  refine ⟨ad, e, hb, fun j u hu => hc j u ?_⟩
  rw [bs_take, List.getElem?_take] at hu
  split at hu
  · exact hu
  · cases hu

set_option maxHeartbeats 800000 in
theorem cut_any (A : Option Addr) (n c : Nat) (l : List UInt8) (s k : Int) (w : World) (hr : RdB w A n c l) :
    Calls Try.prog 38 #[.agg #[.slice A n c, .int .i64 s], .int .i64 k] w (RDiskE w (cuL l s k) (cuS l s k) (cuE l s k)) := by
  have hln := hr.len
  have hcap := hr.cap
  have hmax := hr.max
  cases hv : validB n s with
  | false =>
    have e1 : cuL l s k = [] := by simp [cuL, ← hln, hv]
    have e2 : cuS l s k = 0 := by simp [cuS, ← hln, hv]
    have e3 : cuE l s k = 11 := by simp [cuE, ← hln, hv]
    rw [e1, e2, e3]
    clear e1 e2 e3 hln hcap hmax
    go_enter Try.func38, Try.ntmps38
    go_wp2_with (go_at_call 37; refine (valid_any _ _ _ _ _).mono ?_; rintro e w4 ⟨rfl, hb4⟩; obtain ⟨kc4, kf4, kz4, kh4⟩ := blk_cells hb4 (g := w.heap.size) (t := 47) (cs := #[.slice A n c, .int .i64 s]) (by (focus (repeat' first | with_reducible assumption | (with_reducible refine heap_drew ?_) | (with_reducible refine heap_drewN ?_) | (with_reducible refine heap_new ?_; focus (first | rfl | omega | (simp; done))) | (with_reducible refine heap_old ?_) | (with_reducible apply heap_near') | ((with_reducible show Array.setIfInBounds _ _ _ = _); rfl) | (with_reducible refine heap_far ?_ ?_; focus (first | omega | (simp; omega) | (simp; done))) | (with_reducible apply heap_grown; with_reducible assumption; (focus (first | omega | (simp; omega)))) | (with_reducible apply heap_call; with_reducible assumption)))); obtain ⟨kc5, kf5, kz5, kh5⟩ := blk_cells hb4 (g := w.heap.size + 1) (t := 47) (cs := #[.slice none 0 0, .int .i64 0]) (by (focus (repeat' first | with_reducible assumption | (with_reducible refine heap_drew ?_) | (with_reducible refine heap_drewN ?_) | (with_reducible refine heap_new ?_; focus (first | rfl | omega | (simp; done))) | (with_reducible refine heap_old ?_) | (with_reducible apply heap_near') | ((with_reducible show Array.setIfInBounds _ _ _ = _); rfl) | (with_reducible refine heap_far ?_ ?_; focus (first | omega | (simp; omega) | (simp; done))) | (with_reducible apply heap_grown; with_reducible assumption; (focus (first | omega | (simp; omega)))) | (with_reducible apply heap_call; with_reducible assumption)))))
    refine bodyPost_ret (v := .tuple #[.agg #[.slice none 0 0, .int .i64 0], .int .i64 11]) ?_ rfl ⟨_, rfl, ⟨_, rfl, ⟨_, _, _, rfl, OwB.nil _ _ _⟩⟩, ?_⟩
    · simp [results, Try.results38, go_sem, kc5, kc4]
    · (refine bel_out ?_; (focus (repeat' first | (with_reducible refine bel_refl ?_) | with_reducible assumption | with_reducible refine bel_drew ?_ | with_reducible refine bel_drewN _ ?_ | with_reducible refine bel_alloc _ ?_ | with_reducible refine bel_set ?_ _ ?_ | (with_reducible apply bel_call; with_reducible assumption) | (with_reducible apply bel_owg; with_reducible assumption; (focus omega)) | with_reducible exact Nat.le_refl _ | omega | (simp; done) | (simp; omega))))
  | true =>
    obtain ⟨v1, v2, v3⟩ := valid_le hv
    by_cases hk0 : k < 0
    · have e0 : inB n k = false := by simp [inB]; omega
      have e1 : cuL l s k = [] := by simp [cuL, ← hln, hv, e0]
      have e2 : cuS l s k = 0 := by simp [cuS, ← hln, hv, e0]
      have e3 : cuE l s k = 2 := by simp [cuE, ← hln, hv, e0]
      rw [e1, e2, e3]
      have hk1 : decide (k < 0) = true := by simpa using hk0
      clear e1 e2 e3 hln hcap hmax e0
      go_enter Try.func38, Try.ntmps38
      go_wp2_with (go_at_call 37; refine (valid_any _ _ _ _ _).mono ?_; rintro e w4 ⟨rfl, hb4⟩; obtain ⟨kc4, kf4, kz4, kh4⟩ := blk_cells hb4 (g := w.heap.size) (t := 47) (cs := #[.slice A n c, .int .i64 s]) (by (focus (repeat' first | with_reducible assumption | (with_reducible refine heap_drew ?_) | (with_reducible refine heap_drewN ?_) | (with_reducible refine heap_new ?_; focus (first | rfl | omega | (simp; done))) | (with_reducible refine heap_old ?_) | (with_reducible apply heap_near') | ((with_reducible show Array.setIfInBounds _ _ _ = _); rfl) | (with_reducible refine heap_far ?_ ?_; focus (first | omega | (simp; omega) | (simp; done))) | (with_reducible apply heap_grown; with_reducible assumption; (focus (first | omega | (simp; omega)))) | (with_reducible apply heap_call; with_reducible assumption)))); obtain ⟨kc5, kf5, kz5, kh5⟩ := blk_cells hb4 (g := w.heap.size + 1) (t := 47) (cs := #[.slice none 0 0, .int .i64 0]) (by (focus (repeat' first | with_reducible assumption | (with_reducible refine heap_drew ?_) | (with_reducible refine heap_drewN ?_) | (with_reducible refine heap_new ?_; focus (first | rfl | omega | (simp; done))) | (with_reducible refine heap_old ?_) | (with_reducible apply heap_near') | ((with_reducible show Array.setIfInBounds _ _ _ = _); rfl) | (with_reducible refine heap_far ?_ ?_; focus (first | omega | (simp; omega) | (simp; done))) | (with_reducible apply heap_grown; with_reducible assumption; (focus (first | omega | (simp; omega)))) | (with_reducible apply heap_call; with_reducible assumption)))))
      refine bodyPost_ret (v := .tuple #[.agg #[.slice none 0 0, .int .i64 0], .int .i64 2]) ?_ rfl ⟨_, rfl, ⟨_, rfl, ⟨_, _, _, rfl, OwB.nil _ _ _⟩⟩, ?_⟩
      · simp [results, Try.results38, go_sem, kc5, kc4]
      · (refine bel_out ?_; (focus (repeat' first | (with_reducible refine bel_refl ?_) | with_reducible assumption | with_reducible refine bel_drew ?_ | with_reducible refine bel_drewN _ ?_ | with_reducible refine bel_alloc _ ?_ | with_reducible refine bel_set ?_ _ ?_ | (with_reducible apply bel_call; with_reducible assumption) | (with_reducible apply bel_owg; with_reducible assumption; (focus omega)) | with_reducible exact Nat.le_refl _ | omega | (simp; done) | (simp; omega))))
    · have hk1 : decide (k < 0) = false := by simpa using hk0
      obtain ⟨m, rfl⟩ := Int.eq_ofNat_of_zero_le (by omega : 0 ≤ k)
      by_cases hkn : m ≤ n
      · have e0 : inB n (m : Int) = true := by simp [inB]; omega
        have e1 : cuL l s m = l.take m := by simp [cuL, ← hln, hv, e0]
        have e2 : cuS l s m = min s m := by simp [cuS, ← hln, hv, e0]
        have e3 : cuE l s m = 0 := by simp [cuE, ← hln, hv, e0]
        rw [e1, e2, e3]
        have hk2 : decide (n < m) = false := by simp; omega
        have hcl : ∀ W : World, Below w.heap.size w W → Calls Try.prog 31 #[.slice A m c] W (ROwn W (l.take m)) := fun W hW => clone_any A m c (l.take m) W ((hr.pre m hkn).below hW) (by omega)
        have HC := Lib.hid hcl
        have hmc : (m : Int) ≤ (c : Int) := by omega
        clear e1 e2 e3 hln e0 hcl
        by_cases hsm : (m : Int) < s
        all_goals
          first | rw [show min s (m : Int) = (m : Int) from by omega] | rw [show min s (m : Int) = s from by omega]
          go_enter Try.func38, Try.ntmps38
          go_wp2_with (go_at_call 37; refine (valid_any _ _ _ _ _).mono ?_; rintro e w4 ⟨rfl, hb4⟩; obtain ⟨kc4, kf4, kz4, kh4⟩ := blk_cells hb4 (g := w.heap.size) (t := 47) (cs := #[.slice A n c, .int .i64 s]) (by (focus (repeat' first | with_reducible assumption | (with_reducible refine heap_drew ?_) | (with_reducible refine heap_drewN ?_) | (with_reducible refine heap_new ?_; focus (first | rfl | omega | (simp; done))) | (with_reducible refine heap_old ?_) | (with_reducible apply heap_near') | ((with_reducible show Array.setIfInBounds _ _ _ = _); rfl) | (with_reducible refine heap_far ?_ ?_; focus (first | omega | (simp; omega) | (simp; done))) | (with_reducible apply heap_grown; with_reducible assumption; (focus (first | omega | (simp; omega)))) | (with_reducible apply heap_call; with_reducible assumption)))); obtain ⟨kc5, kf5, kz5, kh5⟩ := blk_cells hb4 (g := w.heap.size + 1) (t := 47) (cs := #[.slice none 0 0, .int .i64 0]) (by (focus (repeat' first | with_reducible assumption | (with_reducible refine heap_drew ?_) | (with_reducible refine heap_drewN ?_) | (with_reducible refine heap_new ?_; focus (first | rfl | omega | (simp; done))) | (with_reducible refine heap_old ?_) | (with_reducible apply heap_near') | ((with_reducible show Array.setIfInBounds _ _ _ = _); rfl) | (with_reducible refine heap_far ?_ ?_; focus (first | omega | (simp; omega) | (simp; done))) | (with_reducible apply heap_grown; with_reducible assumption; (focus (first | omega | (simp; omega)))) | (with_reducible apply heap_call; with_reducible assumption)))))
          have hS : ∀ W : World, Bel (w.heap.size + 1) w4 W → W.cell? ⟨w.heap.size, 0, none⟩ = some (.slice A n c) ∧ W.cell? ⟨w.heap.size, 1, none⟩ = some (.int .i64 s) := by
            intro W hW
            exact ⟨(hW.2.cell (p := ⟨w.heap.size, 0, none⟩) (by simp)).trans (kc4 0), (hW.2.cell (p := ⟨w.heap.size, 1, none⟩) (by simp)).trans (kc4 1)⟩
          have HK := Lib.hid hS
          clear hS
          go_region_held3 (fun w' => w'.cell? ⟨w.heap.size, 0, none⟩ = some (.slice A n c) ∧ w'.cell? ⟨w.heap.size, 1, none⟩ = some (.int .i64 s))
            ((refine HK.out _ ?_; (focus (repeat' first | (with_reducible refine bel_refl ?_) | with_reducible assumption | with_reducible refine bel_drew ?_ | with_reducible refine bel_drewN _ ?_ | with_reducible refine bel_alloc _ ?_ | with_reducible refine bel_set ?_ _ ?_ | (with_reducible apply bel_call; with_reducible assumption) | (with_reducible apply bel_owg; with_reducible assumption; (focus omega)) | with_reducible exact Nat.le_refl _ | omega | (simp; done) | (simp; omega))); done))
            ((go_at_call 31; refine (HC.out _ ?_).mono ?_; (refine bel_out ?_; (focus (repeat' first | (with_reducible refine bel_refl ?_) | with_reducible assumption | with_reducible refine bel_drew ?_ | with_reducible refine bel_drewN _ ?_ | with_reducible refine bel_alloc _ ?_ | with_reducible refine bel_set ?_ _ ?_ | (with_reducible apply bel_call; with_reducible assumption) | (with_reducible apply bel_owg; with_reducible assumption; (focus omega)) | with_reducible exact Nat.le_refl _ | omega | (simp; done) | (simp; omega)))); rintro e w2 ⟨v2, rfl, ⟨A3, n3, c3, rfl, ho3⟩, hb2⟩; obtain ⟨kc6, kf6, kz6, kh6⟩ := blk_cells hb2 (g := w.heap.size + 1) (t := 47) (cs := #[.slice none 0 0, .int .i64 0]) (by (focus (repeat' first | with_reducible assumption | (with_reducible refine heap_drew ?_) | (with_reducible refine heap_drewN ?_) | (with_reducible refine heap_new ?_; focus (first | rfl | omega | (simp; done))) | (with_reducible refine heap_old ?_) | (with_reducible apply heap_near') | ((with_reducible show Array.setIfInBounds _ _ _ = _); rfl) | (with_reducible refine heap_far ?_ ?_; focus (first | omega | (simp; omega) | (simp; done))) | (with_reducible apply heap_grown; with_reducible assumption; (focus (first | omega | (simp; omega)))) | (with_reducible apply heap_call; with_reducible assumption))))))
          all_goals
            go_wp2
            refine bodyPost_ret (v := .tuple #[.agg #[.slice A3 n3 c3, .int .i64 _], .int .i64 0]) ?_ rfl ⟨_, rfl, ⟨_, rfl, ⟨_, _, _, rfl, ?_⟩⟩, ?_⟩
            · simp [results, Try.results38, go_sem, kc6]
            · apply OwB.mono; (focus (repeat' first | with_reducible assumption | (with_reducible apply OwB.drew) | (with_reducible apply OwB.drewN) | (with_reducible apply OwB.alloc) | (with_reducible apply OwB.stored) | (with_reducible apply OwB.set) | (with_reducible apply OwB.call; with_reducible assumption) | omega | (simp; done) | (simp; omega))); (focus (first | omega | (simp; done) | (simp; omega)))
            · (refine bel_out ?_; (focus (repeat' first | (with_reducible refine bel_refl ?_) | with_reducible assumption | with_reducible refine bel_drew ?_ | with_reducible refine bel_drewN _ ?_ | with_reducible refine bel_alloc _ ?_ | with_reducible refine bel_set ?_ _ ?_ | (with_reducible apply bel_call; with_reducible assumption) | (with_reducible apply bel_owg; with_reducible assumption; (focus omega)) | with_reducible exact Nat.le_refl _ | omega | (simp; done) | (simp; omega))))
      · have e0 : inB n (m : Int) = false := by simp [inB]; omega
        have e1 : cuL l s m = [] := by simp [cuL, ← hln, hv, e0]
        have e2 : cuS l s m = 0 := by simp [cuS, ← hln, hv, e0]
        have e3 : cuE l s m = 2 := by simp [cuE, ← hln, hv, e0]
        rw [e1, e2, e3]
        have hk2 : decide (n < m) = true := by simp; omega
        clear e1 e2 e3 hln hcap hmax e0
        go_enter Try.func38, Try.ntmps38
        go_wp2_with (go_at_call 37; refine (valid_any _ _ _ _ _).mono ?_; rintro e w4 ⟨rfl, hb4⟩; obtain ⟨kc4, kf4, kz4, kh4⟩ := blk_cells hb4 (g := w.heap.size) (t := 47) (cs := #[.slice A n c, .int .i64 s]) (by (focus (repeat' first | with_reducible assumption | (with_reducible refine heap_drew ?_) | (with_reducible refine heap_drewN ?_) | (with_reducible refine heap_new ?_; focus (first | rfl | omega | (simp; done))) | (with_reducible refine heap_old ?_) | (with_reducible apply heap_near') | ((with_reducible show Array.setIfInBounds _ _ _ = _); rfl) | (with_reducible refine heap_far ?_ ?_; focus (first | omega | (simp; omega) | (simp; done))) | (with_reducible apply heap_grown; with_reducible assumption; (focus (first | omega | (simp; omega)))) | (with_reducible apply heap_call; with_reducible assumption)))); obtain ⟨kc5, kf5, kz5, kh5⟩ := blk_cells hb4 (g := w.heap.size + 1) (t := 47) (cs := #[.slice none 0 0, .int .i64 0]) (by (focus (repeat' first | with_reducible assumption | (with_reducible refine heap_drew ?_) | (with_reducible refine heap_drewN ?_) | (with_reducible refine heap_new ?_; focus (first | rfl | omega | (simp; done))) | (with_reducible refine heap_old ?_) | (with_reducible apply heap_near') | ((with_reducible show Array.setIfInBounds _ _ _ = _); rfl) | (with_reducible refine heap_far ?_ ?_; focus (first | omega | (simp; omega) | (simp; done))) | (with_reducible apply heap_grown; with_reducible assumption; (focus (first | omega | (simp; omega)))) | (with_reducible apply heap_call; with_reducible assumption)))))
        refine bodyPost_ret (v := .tuple #[.agg #[.slice none 0 0, .int .i64 0], .int .i64 2]) ?_ rfl ⟨_, rfl, ⟨_, rfl, ⟨_, _, _, rfl, OwB.nil _ _ _⟩⟩, ?_⟩
        · simp [results, Try.results38, go_sem, kc5, kc4]
        · (refine bel_out ?_; (focus (repeat' first | (with_reducible refine bel_refl ?_) | with_reducible assumption | with_reducible refine bel_drew ?_ | with_reducible refine bel_drewN _ ?_ | with_reducible refine bel_alloc _ ?_ | with_reducible refine bel_set ?_ _ ?_ | (with_reducible apply bel_call; with_reducible assumption) | (with_reducible apply bel_owg; with_reducible assumption; (focus omega)) | with_reducible exact Nat.le_refl _ | omega | (simp; done) | (simp; omega))))

end Go.Proofs.Ytaagmiidapammaa
