/- The walk of QueueAny. -/
import Derived.Test.YtobgnncdldfkkaaDoorQX
import Derived.Test.YtobgnncdldfkkaaDoorQY
import Derived.Test.YtobgnncdldfkkaaDoorQU
namespace Go.Proofs.YtobgnncdldfkkaaDoor
open Go.RowKit
set_option linter.unusedSimpArgs false
set_option linter.unusedVariables false

set_option maxRecDepth 100000 in
set_option maxHeartbeats 16000000 in
theorem queueany_walk (A : Option Addr) (n c : Nat) (L : List Jb) (B : Option Addr) (m d : Nat) (M : List Jb) (j : Jb) (A2 : Option Addr) (n2 c2 : Nat) (zs : List Int) (x : Int) (w : World) (h : RdR RJ 4 w A n c L) (h2 : RdR RJ 4 w B m d M) (hr : RdN w A2 n2 c2 zs) (hx : Hm x w) (hwf : ∀ a ∈ L, JWf a) :
    Calls Tryd.prog 3 #[.agg #[.slice A n c, .slice B m d], j.val, .slice A2 n2 c2] w fun e w' => e = .returned (.bool true) ∧ Below w.heap.size w w' := by
  have HAW := Lib.hid fun (W : World) (hW : Below w.heap.size w W) => awake_any x W (hx.below hW)
  have HFE := Lib.hid fun (W : World) => few_any A B n c m d W
  by_cases hf : n ≤ 20 ∧ m ≤ 20
  · obtain ⟨hn, hm⟩ := hf
    have e1 : decide (n ≤ 20) = true := decide_eq_true hn
    have e2 : decide (m ≤ 20) = true := decide_eq_true hm
    rw [e1, e2] at HFE
    have HC : Hid (∀ (j : Jb) (W : World), Below w.heap.size w W → Calls Tryd.prog 12 #[.agg #[.slice A n c, .slice B m d], j.val] W fun e w' => e = .returned (.bool true) ∧ Below W.heap.size W w') := Lib.hid fun j W hW => compares_any A n c L B m d M j x W (RdJ.below h hW) (RdJ.below h2 hW) (hx.below hW) (by omega) (by omega) hwf
    have HFR : Hid (∀ W, Below w.heap.size w W → Calls Tryd.prog 14 #[.slice A2 n2 c2] W (RFrom W A2 n2 c2)) := Lib.hid fun W hW => from_any A2 n2 c2 zs W ⟨hr.len, hr.cap, hr.max, (hr.reads.below hW).more hW.size⟩
    have HJ : Hid (∀ (g : Nat) (W : World), w.heap.size ≤ g → Below w.heap.size w W → SrcAt W g A2 n2 c2 → Calls Tryd.prog 13 #[.pointer (some ⟨g, 0, none⟩)] W (RJob W g A2 n2 c2)) := Lib.hid fun g W hg hW hs => job_any w g A2 n2 c2 zs W hr hW hg hs
    have HO := Lib.hid fun (h0 : 0 < m) => RdJ.opened h2 h0
    clear h h2 hr hx hwf
    have HCJ := Lib.hid (HC.out j)
    obtain ⟨st, us, sp, nm⟩ := j
    unfold Jb.val at HCJ
    unfold Jb.val
    simp only [] at HCJ
    go_enter Tryd.func3, Tryd.ntmps3
    go_wp2_with fail
    go_at_call 10
    refine (HFE.out _).mono ?_
    rintro e w1 ⟨rfl, hb1⟩
    obtain ⟨kc1, kf1, kz1, kh1⟩ := blk_cells hb1 (g := w.heap.size) (t := 24) (cs := #[.slice A n c, .slice B m d]) (by (focus (repeat' first | with_reducible assumption | (with_reducible refine heap_drew ?_) | (with_reducible refine heap_drewN ?_) | (with_reducible refine heap_new ?_; focus (first | rfl | omega | (simp; done))) | (with_reducible refine heap_old ?_) | (with_reducible apply heap_near') | ((with_reducible show Array.setIfInBounds _ _ _ = _); rfl) | (with_reducible refine heap_far ?_ ?_; focus (first | omega | (simp; omega) | (simp; done))) | (with_reducible apply heap_grown; with_reducible assumption; (focus (first | omega | (simp; omega)))) | (with_reducible apply heap_call; with_reducible assumption))))
    obtain ⟨kc1j, kf1j, kz1j, kh1j⟩ := blk_cells hb1 (g := w.heap.size + 1) (t := 28) (cs := #[.int .i64 st, .string us, .int .i64 sp, .string nm]) (by (focus (repeat' first | with_reducible assumption | (with_reducible refine heap_drew ?_) | (with_reducible refine heap_drewN ?_) | (with_reducible refine heap_new ?_; focus (first | rfl | omega | (simp; done))) | (with_reducible refine heap_old ?_) | (with_reducible apply heap_near') | ((with_reducible show Array.setIfInBounds _ _ _ = _); rfl) | (with_reducible refine heap_far ?_ ?_; focus (first | omega | (simp; omega) | (simp; done))) | (with_reducible apply heap_grown; with_reducible assumption; (focus (first | omega | (simp; omega)))) | (with_reducible apply heap_call; with_reducible assumption))))
    have hb01 : Below w.heap.size w w1 := by (refine bel_out ?_; (focus (repeat' first | (with_reducible refine bel_refl ?_) | with_reducible assumption | with_reducible refine bel_drew ?_ | with_reducible refine bel_drewN _ ?_ | with_reducible refine bel_alloc _ ?_ | with_reducible refine bel_set ?_ _ ?_ | (with_reducible apply bel_call; with_reducible assumption) | (with_reducible apply bel_owg; with_reducible assumption; (focus omega)) | with_reducible exact Nat.le_refl _ | omega | (simp; done) | (simp; omega))))
    have HK : Hid (∀ W : World, Bel w1.heap.size w1 W → W.cell? ⟨w.heap.size, 0, none⟩ = some (.slice A n c) ∧ W.cell? ⟨w.heap.size, 1, none⟩ = some (.slice B m d) ∧ W.cell? ⟨w.heap.size + 1, 0, none⟩ = some (.int .i64 st) ∧ W.cell? ⟨w.heap.size + 1, 1, none⟩ = some (.string us) ∧ W.cell? ⟨w.heap.size + 1, 2, none⟩ = some (.int .i64 sp) ∧ W.cell? ⟨w.heap.size + 1, 3, none⟩ = some (.string nm)) := Lib.hid fun W hW => by
      have h1 := heap_call hW.2 kh1
      have h2 := heap_call hW.2 kh1j
      exact ⟨Blk.cell h1 0, Blk.cell h1 1, Blk.cell h2 0, Blk.cell h2 1, Blk.cell h2 2, Blk.cell h2 3⟩
    have hz1 := hb01.size
    clear hb1 HFE
    by_cases hm0 : m = 0
    · subst hm0
      go_wp2_with fail
      go_quiet (fail)
      go_wp2_with fail
      have kV1 : (w1.drewN nq).heap[w.heap.size]? = some (.cells #[.slice A n c, .slice B 0 d] 24 (0, 0)) := kh1
      have kV2 : (w1.drewN nq).heap[w.heap.size + 1]? = some (.cells #[.int .i64 st, .string us, .int .i64 sp, .string nm] 28 (0, 0)) := kh1j
      have hbV : Below w.heap.size w (w1.drewN nq) := below_drewN hb01 nq
      generalize w1.drewN nq = V at kV1 kV2 hbV ⊢
      have HKV : Hid (∀ W : World, Bel V.heap.size V W → W.cell? ⟨w.heap.size, 0, none⟩ = some (.slice A n c) ∧ W.cell? ⟨w.heap.size, 1, none⟩ = some (.slice B 0 d) ∧ W.cell? ⟨w.heap.size + 1, 0, none⟩ = some (.int .i64 st) ∧ W.cell? ⟨w.heap.size + 1, 1, none⟩ = some (.string us) ∧ W.cell? ⟨w.heap.size + 1, 2, none⟩ = some (.int .i64 sp) ∧ W.cell? ⟨w.heap.size + 1, 3, none⟩ = some (.string nm)) := Lib.hid fun W hW => by
        have h1 := heap_call hW.2 kV1
        have h2 := heap_call hW.2 kV2
        exact ⟨Blk.cell h1 0, Blk.cell h1 1, Blk.cell h2 0, Blk.cell h2 1, Blk.cell h2 2, Blk.cell h2 3⟩
      have hzV := hbV.size
      clear kV1 kV2
      go_wp2_with fail
      go_region_held3 (fun W => W.cell? ⟨w.heap.size, 0, none⟩ = some (.slice A n c) ∧ W.cell? ⟨w.heap.size, 1, none⟩ = some (.slice B 0 d) ∧ W.cell? ⟨w.heap.size + 1, 0, none⟩ = some (.int .i64 st) ∧ W.cell? ⟨w.heap.size + 1, 1, none⟩ = some (.string us) ∧ W.cell? ⟨w.heap.size + 1, 2, none⟩ = some (.int .i64 sp) ∧ W.cell? ⟨w.heap.size + 1, 3, none⟩ = some (.string nm))
        ((refine HKV.out _ ?_; (focus (repeat' first | (with_reducible refine bel_refl ?_) | with_reducible assumption | with_reducible refine bel_drew ?_ | with_reducible refine bel_drewN _ ?_ | with_reducible refine bel_alloc _ ?_ | with_reducible refine bel_set ?_ _ ?_ | (with_reducible apply bel_call; with_reducible assumption) | (with_reducible apply bel_owg; with_reducible assumption; (focus omega)) | with_reducible exact Nat.le_refl _ | omega | (simp; done) | (simp; omega))); done))
        (first
          | (go_at_call 11; ((with_reducible refine (HAW.out _ ?_).mono ?_); (focus (refine bel_out ?_; (focus (repeat' first | (with_reducible refine bel_refl ?_) | with_reducible assumption | with_reducible refine bel_drew ?_ | with_reducible refine bel_drewN _ ?_ | with_reducible refine bel_alloc _ ?_ | with_reducible refine bel_set ?_ _ ?_ | (with_reducible apply bel_call; with_reducible assumption) | (with_reducible apply bel_owg; with_reducible assumption; (focus omega)) | with_reducible exact Nat.le_refl _ | omega | (simp; done) | (simp; omega))))); rintro e v1 ⟨rfl, hv1⟩))
          | (go_at_call 12; ((with_reducible refine (HCJ.out _ ?_).mono ?_); (focus (refine bel_out ?_; (focus (repeat' first | (with_reducible refine bel_refl ?_) | with_reducible assumption | with_reducible refine bel_drew ?_ | with_reducible refine bel_drewN _ ?_ | with_reducible refine bel_alloc _ ?_ | with_reducible refine bel_set ?_ _ ?_ | (with_reducible apply bel_call; with_reducible assumption) | (with_reducible apply bel_owg; with_reducible assumption; (focus omega)) | with_reducible exact Nat.le_refl _ | omega | (simp; done) | (simp; omega))))); rintro e v2 ⟨rfl, hv2⟩))
          | (go_at_call 14; ((with_reducible refine (HFR.out _ ?_).mono ?_); (focus (refine bel_out ?_; (focus (repeat' first | (with_reducible refine bel_refl ?_) | with_reducible assumption | with_reducible refine bel_drew ?_ | with_reducible refine bel_drewN _ ?_ | with_reducible refine bel_alloc _ ?_ | with_reducible refine bel_set ?_ _ ?_ | (with_reducible apply bel_call; with_reducible assumption) | (with_reducible apply bel_owg; with_reducible assumption; (focus omega)) | with_reducible exact Nat.le_refl _ | omega | (simp; done) | (simp; omega))))); rintro e v3 ⟨vv, rfl, ⟨g, rfl, hg, hs3⟩, hv3⟩; (have hbV3 : Below V.heap.size V v3 := by (refine bel_out ?_; (focus (repeat' first | (with_reducible refine bel_refl ?_) | with_reducible assumption | with_reducible refine bel_drew ?_ | with_reducible refine bel_drewN _ ?_ | with_reducible refine bel_alloc _ ?_ | with_reducible refine bel_set ?_ _ ?_ | (with_reducible apply bel_call; with_reducible assumption) | (with_reducible apply bel_owg; with_reducible assumption; (focus omega)) | with_reducible exact Nat.le_refl _ | omega | (simp; done) | (simp; omega))))); (have hgz : V.heap.size ≤ g := by refine Nat.le_trans (Below.size (B := V.heap.size) (w := V) ?_) hg; (refine bel_out ?_; (focus (repeat' first | (with_reducible refine bel_refl ?_) | with_reducible assumption | with_reducible refine bel_drew ?_ | with_reducible refine bel_drewN _ ?_ | with_reducible refine bel_alloc _ ?_ | with_reducible refine bel_set ?_ _ ?_ | (with_reducible apply bel_call; with_reducible assumption) | (with_reducible apply bel_owg; with_reducible assumption; (focus omega)) | with_reducible exact Nat.le_refl _ | omega | (simp; done) | (simp; omega)))))))
          | (go_at_call 13; ((with_reducible refine (HJ.out g _ ?_ ?_ hs3).mono ?_); (focus omega); (focus (refine bel_out ?_; (focus (repeat' first | (with_reducible refine bel_refl ?_) | with_reducible assumption | with_reducible refine bel_drew ?_ | with_reducible refine bel_drewN _ ?_ | with_reducible refine bel_alloc _ ?_ | with_reducible refine bel_set ?_ _ ?_ | (with_reducible apply bel_call; with_reducible assumption) | (with_reducible apply bel_owg; with_reducible assumption; (focus omega)) | with_reducible exact Nat.le_refl _ | omega | (simp; done) | (simp; omega))))); rintro e v4 ⟨j2, hj2, rfl, hs4, hg4⟩; (have hv4 : Below V.heap.size V v4 := below_grown hbV3 hbV3.size hg4 hgz); (have hb04 := Lib.hid (below_call hbV hv4))))
          | (go_at_call 12; ((with_reducible refine (HC.out j2 v4 hb04.out).mono ?_); rintro e v5 ⟨rfl, hv5⟩)))
      all_goals
        go_wp2
        go_ret
        exact ⟨by rfl, by (refine bel_out ?_; (focus (repeat' first | (with_reducible refine bel_refl ?_) | with_reducible assumption | with_reducible refine bel_drew ?_ | with_reducible refine bel_drewN _ ?_ | with_reducible refine bel_alloc _ ?_ | with_reducible refine bel_set ?_ _ ?_ | (with_reducible apply bel_call; with_reducible assumption) | (with_reducible apply bel_owg; with_reducible assumption; (focus omega)) | with_reducible exact Nat.le_refl _ | omega | (simp; done) | (simp; omega))))⟩
    · obtain ⟨k, hk⟩ : ∃ k, m = k + 1 := ⟨m - 1, by omega⟩
      have hmk : (m : Int) - 1 = (k : Int) := by omega
      obtain ⟨b, off, rfl, hb, hc⟩ := HO.out (by omega)
      obtain ⟨x1, x2, x3, x4⟩ := hc k (by omega)
      have HCK := Lib.hid (HC.out (M.getD k jb0))
      have HK3 : Hid (∀ W : World, Bel w1.heap.size w1 W → W.cell? ⟨w.heap.size, 0, none⟩ = some (.slice A n c) ∧ W.cell? ⟨w.heap.size, 1, none⟩ = some (.slice (some ⟨b, off, none⟩) m d) ∧ W.cell? ⟨b, off + k * 4, none⟩ = some (.int .i64 (M.getD k jb0).st) ∧ W.cell? ⟨b, off + k * 4 + 1, none⟩ = some (.string (M.getD k jb0).us) ∧ W.cell? ⟨b, off + k * 4 + 2, none⟩ = some (.int .i64 (M.getD k jb0).sp) ∧ W.cell? ⟨b, off + k * 4 + 3, none⟩ = some (.string (M.getD k jb0).nm)) := Lib.hid fun W hW => by
        have h1 := HK.out W hW
        have hbb : Below w.heap.size w W := below_call hb01 (by exact hW.2)
        exact ⟨h1.1, h1.2.1, (hbb.cell hb).trans x1, (hbb.cell hb).trans x2, (hbb.cell hb).trans x3, (hbb.cell hb).trans x4⟩
      clear hc x1 x2 x3 x4 HO
      generalize M.getD k jb0 = a at *
      obtain ⟨st2, us2, sp2, nm2⟩ := a
      unfold Jb.val at HCK
      simp only [] at HCK HK3
      have z0 : (0 : Int) ≤ (k : Int) := by omega
      have z1 : (k : Int) < (m : Int) := by omega
      have z2 : (0 : Int) < (m : Int) := by omega
      have z3 : IntKind.i64.wrap ((m : Int) - 1) = (k : Int) := by rw [IntKind.wrap_i64]; omega
      have z5 : (m : Int) ≤ 20 := by omega
      have z6 : (k : Int) ≤ 20 := by omega
      have z7 : (1 : Int) ≤ (m : Int) := by omega
      have z8 : IntKind.i64.wrap (k : Int) = (k : Int) := by rw [IntKind.wrap_i64]; omega
      have z2n : 0 < m := by omega
      have z2d : decide (0 < m) = true := decide_eq_true z2n
      have z2e : decide ((0 : Int) < (m : Int)) = true := decide_eq_true z2
      clear hk hm0
      go_wp2_with fail
      go_region_held3 (fun W => W.cell? ⟨w.heap.size, 0, none⟩ = some (.slice A n c) ∧ W.cell? ⟨w.heap.size, 1, none⟩ = some (.slice (some ⟨b, off, none⟩) m d) ∧ W.cell? ⟨b, off + k * 4, none⟩ = some (.int .i64 st2) ∧ W.cell? ⟨b, off + k * 4 + 1, none⟩ = some (.string us2) ∧ W.cell? ⟨b, off + k * 4 + 2, none⟩ = some (.int .i64 sp2) ∧ W.cell? ⟨b, off + k * 4 + 3, none⟩ = some (.string nm2))
        ((refine HK3.out _ ?_; (focus (repeat' first | (with_reducible refine bel_refl ?_) | with_reducible assumption | with_reducible refine bel_drew ?_ | with_reducible refine bel_drewN _ ?_ | with_reducible refine bel_alloc _ ?_ | with_reducible refine bel_set ?_ _ ?_ | (with_reducible apply bel_call; with_reducible assumption) | (with_reducible apply bel_owg; with_reducible assumption; (focus omega)) | with_reducible exact Nat.le_refl _ | omega | (simp; done) | (simp; omega))); done))
        ((go_at_call 12; ((with_reducible refine (HCK.out _ ?_).mono ?_); (focus (refine bel_out ?_; (focus (repeat' first | (with_reducible refine bel_refl ?_) | with_reducible assumption | with_reducible refine bel_drew ?_ | with_reducible refine bel_drewN _ ?_ | with_reducible refine bel_alloc _ ?_ | with_reducible refine bel_set ?_ _ ?_ | (with_reducible apply bel_call; with_reducible assumption) | (with_reducible apply bel_owg; with_reducible assumption; (focus omega)) | with_reducible exact Nat.le_refl _ | omega | (simp; done) | (simp; omega))))); rintro e w2 ⟨rfl, hb2⟩)))
      have hbV : Below w.heap.size w w2 := by (refine bel_out ?_; (focus (repeat' first | (with_reducible refine bel_refl ?_) | with_reducible assumption | with_reducible refine bel_drew ?_ | with_reducible refine bel_drewN _ ?_ | with_reducible refine bel_alloc _ ?_ | with_reducible refine bel_set ?_ _ ?_ | (with_reducible apply bel_call; with_reducible assumption) | (with_reducible apply bel_owg; with_reducible assumption; (focus omega)) | with_reducible exact Nat.le_refl _ | omega | (simp; done) | (simp; omega))))
      have kV1 := heap_call hb2 kh1
      have kV2 := heap_call hb2 kh1j
      clear hb2
      obtain ⟨V, rfl⟩ : ∃ q, q = w2 := ⟨_, rfl⟩
      have HKV : Hid (∀ W : World, Bel V.heap.size V W → W.cell? ⟨w.heap.size, 0, none⟩ = some (.slice A n c) ∧ W.cell? ⟨w.heap.size, 1, none⟩ = some (.slice (some ⟨b, off, none⟩) m d) ∧ W.cell? ⟨w.heap.size + 1, 0, none⟩ = some (.int .i64 st) ∧ W.cell? ⟨w.heap.size + 1, 1, none⟩ = some (.string us) ∧ W.cell? ⟨w.heap.size + 1, 2, none⟩ = some (.int .i64 sp) ∧ W.cell? ⟨w.heap.size + 1, 3, none⟩ = some (.string nm)) := Lib.hid fun W hW => by
        have h1 := heap_call hW.2 kV1
        have h2 := heap_call hW.2 kV2
        exact ⟨Blk.cell h1 0, Blk.cell h1 1, Blk.cell h2 0, Blk.cell h2 1, Blk.cell h2 2, Blk.cell h2 3⟩
      have hzV := hbV.size
      clear kV1 kV2
      go_wp2_with fail
      go_region_held3 (fun W => W.cell? ⟨w.heap.size, 0, none⟩ = some (.slice A n c) ∧ W.cell? ⟨w.heap.size, 1, none⟩ = some (.slice (some ⟨b, off, none⟩) m d) ∧ W.cell? ⟨w.heap.size + 1, 0, none⟩ = some (.int .i64 st) ∧ W.cell? ⟨w.heap.size + 1, 1, none⟩ = some (.string us) ∧ W.cell? ⟨w.heap.size + 1, 2, none⟩ = some (.int .i64 sp) ∧ W.cell? ⟨w.heap.size + 1, 3, none⟩ = some (.string nm))
        ((refine HKV.out _ ?_; (focus (repeat' first | (with_reducible refine bel_refl ?_) | with_reducible assumption | with_reducible refine bel_drew ?_ | with_reducible refine bel_drewN _ ?_ | with_reducible refine bel_alloc _ ?_ | with_reducible refine bel_set ?_ _ ?_ | (with_reducible apply bel_call; with_reducible assumption) | (with_reducible apply bel_owg; with_reducible assumption; (focus omega)) | with_reducible exact Nat.le_refl _ | omega | (simp; done) | (simp; omega))); done))
        (first
          | (go_at_call 11; ((with_reducible refine (HAW.out _ ?_).mono ?_); (focus (refine bel_out ?_; (focus (repeat' first | (with_reducible refine bel_refl ?_) | with_reducible assumption | with_reducible refine bel_drew ?_ | with_reducible refine bel_drewN _ ?_ | with_reducible refine bel_alloc _ ?_ | with_reducible refine bel_set ?_ _ ?_ | (with_reducible apply bel_call; with_reducible assumption) | (with_reducible apply bel_owg; with_reducible assumption; (focus omega)) | with_reducible exact Nat.le_refl _ | omega | (simp; done) | (simp; omega))))); rintro e v1 ⟨rfl, hv1⟩))
          | (go_at_call 12; ((with_reducible refine (HCJ.out _ ?_).mono ?_); (focus (refine bel_out ?_; (focus (repeat' first | (with_reducible refine bel_refl ?_) | with_reducible assumption | with_reducible refine bel_drew ?_ | with_reducible refine bel_drewN _ ?_ | with_reducible refine bel_alloc _ ?_ | with_reducible refine bel_set ?_ _ ?_ | (with_reducible apply bel_call; with_reducible assumption) | (with_reducible apply bel_owg; with_reducible assumption; (focus omega)) | with_reducible exact Nat.le_refl _ | omega | (simp; done) | (simp; omega))))); rintro e v2 ⟨rfl, hv2⟩))
          | (go_at_call 14; ((with_reducible refine (HFR.out _ ?_).mono ?_); (focus (refine bel_out ?_; (focus (repeat' first | (with_reducible refine bel_refl ?_) | with_reducible assumption | with_reducible refine bel_drew ?_ | with_reducible refine bel_drewN _ ?_ | with_reducible refine bel_alloc _ ?_ | with_reducible refine bel_set ?_ _ ?_ | (with_reducible apply bel_call; with_reducible assumption) | (with_reducible apply bel_owg; with_reducible assumption; (focus omega)) | with_reducible exact Nat.le_refl _ | omega | (simp; done) | (simp; omega))))); rintro e v3 ⟨vv, rfl, ⟨g, rfl, hg, hs3⟩, hv3⟩; (have hbV3 : Below V.heap.size V v3 := by (refine bel_out ?_; (focus (repeat' first | (with_reducible refine bel_refl ?_) | with_reducible assumption | with_reducible refine bel_drew ?_ | with_reducible refine bel_drewN _ ?_ | with_reducible refine bel_alloc _ ?_ | with_reducible refine bel_set ?_ _ ?_ | (with_reducible apply bel_call; with_reducible assumption) | (with_reducible apply bel_owg; with_reducible assumption; (focus omega)) | with_reducible exact Nat.le_refl _ | omega | (simp; done) | (simp; omega))))); (have hgz : V.heap.size ≤ g := by refine Nat.le_trans (Below.size (B := V.heap.size) (w := V) ?_) hg; (refine bel_out ?_; (focus (repeat' first | (with_reducible refine bel_refl ?_) | with_reducible assumption | with_reducible refine bel_drew ?_ | with_reducible refine bel_drewN _ ?_ | with_reducible refine bel_alloc _ ?_ | with_reducible refine bel_set ?_ _ ?_ | (with_reducible apply bel_call; with_reducible assumption) | (with_reducible apply bel_owg; with_reducible assumption; (focus omega)) | with_reducible exact Nat.le_refl _ | omega | (simp; done) | (simp; omega)))))))
          | (go_at_call 13; ((with_reducible refine (HJ.out g _ ?_ ?_ hs3).mono ?_); (focus omega); (focus (refine bel_out ?_; (focus (repeat' first | (with_reducible refine bel_refl ?_) | with_reducible assumption | with_reducible refine bel_drew ?_ | with_reducible refine bel_drewN _ ?_ | with_reducible refine bel_alloc _ ?_ | with_reducible refine bel_set ?_ _ ?_ | (with_reducible apply bel_call; with_reducible assumption) | (with_reducible apply bel_owg; with_reducible assumption; (focus omega)) | with_reducible exact Nat.le_refl _ | omega | (simp; done) | (simp; omega))))); rintro e v4 ⟨j2, hj2, rfl, hs4, hg4⟩; (have hv4 : Below V.heap.size V v4 := below_grown hbV3 hbV3.size hg4 hgz); (have hb04 := Lib.hid (below_call hbV hv4))))
          | (go_at_call 12; ((with_reducible refine (HC.out j2 v4 hb04.out).mono ?_); rintro e v5 ⟨rfl, hv5⟩)))
      all_goals
        go_wp2
        go_ret
        exact ⟨by rfl, by (refine bel_out ?_; (focus (repeat' first | (with_reducible refine bel_refl ?_) | with_reducible assumption | with_reducible refine bel_drew ?_ | with_reducible refine bel_drewN _ ?_ | with_reducible refine bel_alloc _ ?_ | with_reducible refine bel_set ?_ _ ?_ | (with_reducible apply bel_call; with_reducible assumption) | (with_reducible apply bel_owg; with_reducible assumption; (focus omega)) | with_reducible exact Nat.le_refl _ | omega | (simp; done) | (simp; omega))))⟩
  · have HFF : Hid (∀ W : World, Calls Tryd.prog 10 #[.agg #[.slice A n c, .slice B m d]] W fun e w' => e = .returned (.bool false) ∧ Below W.heap.size W w') := Lib.hid fun W => by
      have hq := HFE.out W
      have : (decide (n ≤ 20) && decide (m ≤ 20)) = false := by
        rw [← Bool.decide_and]
        exact decide_eq_false hf
      rw [this] at hq
      exact hq
    clear HFE h h2 hr hx hwf
    obtain ⟨st, us, sp, nm⟩ := j
    unfold Jb.val
    go_enter Tryd.func3, Tryd.ntmps3
    go_wp2_with fail
    go_at_call 10
    refine (HFF.out _).mono ?_
    rintro e w1 ⟨rfl, hb1⟩
    go_wp2_with fail
    go_at_call 11
    refine (HAW.out _ (by (refine bel_out ?_; (focus (repeat' first | (with_reducible refine bel_refl ?_) | with_reducible assumption | with_reducible refine bel_drew ?_ | with_reducible refine bel_drewN _ ?_ | with_reducible refine bel_alloc _ ?_ | with_reducible refine bel_set ?_ _ ?_ | (with_reducible apply bel_call; with_reducible assumption) | (with_reducible apply bel_owg; with_reducible assumption; (focus omega)) | with_reducible exact Nat.le_refl _ | omega | (simp; done) | (simp; omega)))))).mono ?_
    rintro e w2 ⟨rfl, hb2⟩
    go_wp2_with fail
    go_ret
    exact ⟨rfl, by (refine bel_out ?_; (focus (repeat' first | (with_reducible refine bel_refl ?_) | with_reducible assumption | with_reducible refine bel_drew ?_ | with_reducible refine bel_drewN _ ?_ | with_reducible refine bel_alloc _ ?_ | with_reducible refine bel_set ?_ _ ?_ | (with_reducible apply bel_call; with_reducible assumption) | (with_reducible apply bel_owg; with_reducible assumption; (focus omega)) | with_reducible exact Nat.le_refl _ | omega | (simp; done) | (simp; omega))))⟩
end Go.Proofs.YtobgnncdldfkkaaDoor
