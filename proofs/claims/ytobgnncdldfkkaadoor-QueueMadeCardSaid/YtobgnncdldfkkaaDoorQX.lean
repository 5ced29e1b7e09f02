/- The walk of compares. -/
import Derived.Test.YtobgnncdldfkkaaDoorQS
import Derived.Test.YtobgnncdldfkkaaDoorQT
import Derived.Test.YtobgnncdldfkkaaDoorQJ
import Derived.Test.YtobgnncdldfkkaaDoorQN
import Derived.Test.YtobgnncdldfkkaaDoorQO
namespace Go.Proofs.YtobgnncdldfkkaaDoor
open Go.RowKit
set_option linter.unusedSimpArgs false
set_option linter.unusedVariables false

theorem sameq_true (A : Option Addr) (n c : Nat) (L : List Jb) (B : Option Addr) (m d : Nat) (M : List Jb) (A2 : Option Addr) (n2 c2 : Nat) (B2 : Option Addr) (m2 d2 : Nat) (w : World) (h : RdR RJ 4 w A n c L) (h2 : RdR RJ 4 w B m d M) (h3 : RdR RJ 4 w A2 n2 c2 L) (h4 : RdR RJ 4 w B2 m2 d2 M) :
    Calls Tryd.prog 23 #[.agg #[.slice A n c, .slice B m d], .agg #[.slice A2 n2 c2, .slice B2 m2 d2]] w fun e w' => e = .returned (.bool true) ∧ Below w.heap.size w w' := by
  have := sameq_any A n c L B m d M A2 n2 c2 L B2 m2 d2 M w h h2 h3 h4
  simpa using this

set_option maxRecDepth 100000 in
set_option maxHeartbeats 16000000 in
theorem compares_any (A : Option Addr) (n c : Nat) (L : List Jb) (B : Option Addr) (m d : Nat) (M : List Jb) (j : Jb) (x : Int) (w : World) (h : RdR RJ 4 w A n c L) (h2 : RdR RJ 4 w B m d M) (hx : Hm x w) (hn : n ≤ 40000) (hm : m ≤ 40000) (hwf : ∀ a ∈ L, JWf a) :
    Calls Tryd.prog 12 #[.agg #[.slice A n c, .slice B m d], j.val] w fun e w' => e = .returned (.bool true) ∧ Below w.heap.size w w' := by
  have HR1 := Lib.hid fun (W : World) (hW : Below w.heap.size w W) => RdJ.below h hW
  have HR2 := Lib.hid fun (W : World) (hW : Below w.heap.size w W) => RdJ.below h2 hW
  have HX := Lib.hid fun (W : World) (hW : Below w.heap.size w W) => hx.below hW
  have HT1 := Lib.hid fun (W : World) (hW : Below w.heap.size w W) => take_any A n c L B m d M x W (HR1.out W hW) (HR2.out W hW) (HX.out W hW) (by omega) (by omega)
  have HT2 := Lib.hid fun (W : World) (hW : Below w.heap.size w W) => rtake_any A n c L B m d M W (HR1.out W hW) (HR2.out W hW) (by omega) (by omega)
  have HV1 := Lib.hid fun (W : World) (hW : Below w.heap.size w W) => valid_any A n c L B m d M x W (HR1.out W hW) (HR2.out W hW) (HX.out W hW) hwf
  have HV2 := Lib.hid fun (W : World) (hW : Below w.heap.size w W) => rvalid_any A n c L B m d M W (HR1.out W hW) (HR2.out W hW) (by omega) (by omega)
  have HE1 := Lib.hid fun (W : World) => empty_any A B n c m d W
  have HE2 := Lib.hid fun (W : World) => rempty_any A B n c m d W
  have HA1 := Lib.hid fun (W : World) (hW : Below w.heap.size w W) => add_any A n c L B m d M j W (HR1.out W hW) (HR2.out W hW) (by omega) (by omega)
  have HA2 := Lib.hid fun (W : World) (hW : Below w.heap.size w W) => radd_any A n c L B m d M j W (HR1.out W hW) (HR2.out W hW) (by omega) (by omega)
  have HD1 := Lib.hid fun (W : World) (hW : Below w.heap.size w W) => done_any A n c L B m d M j W (HR1.out W hW) (HR2.out W hW) (by omega) (by omega)
  have HD2 := Lib.hid fun (W : World) (hW : Below w.heap.size w W) => rdone_any A n c L B m d M j W (HR1.out W hW) (HR2.out W hW) (by omega) (by omega)
  have HB1 := Lib.hid fun (W : World) (hW : Below w.heap.size w W) => back_any A n c L B m d M j W (HR1.out W hW) (HR2.out W hW) (by omega) (by omega)
  have HB2 := Lib.hid fun (W : World) (hW : Below w.heap.size w W) => rback_any A n c L B m d M j W (HR1.out W hW) (HR2.out W hW) (by omega) (by omega)
  clear h h2 hx hwf HR1 HR2 HX
  generalize qv L M = rq at *
  generalize tkW L M = lW at *
  generalize tkT L M = lT at *
  generalize tkJ L M = lJ at *
  generalize tkOk L M = lO at *
  generalize addL L j = lA at *
  generalize doneL M j = lD at *
  obtain ⟨st1, us1, sp1, nm1⟩ := lJ
  obtain ⟨st, us, sp, nm⟩ := j
  unfold Jb.val at *
  unfold RTk at HT1 HT2
  unfold Jb.val at HT1 HT2
  simp only [] at HA1 HA2 HD1 HD2 HB1 HB2 HT1 HT2
  have hq := fun W => run_eq_job st1 us1 sp1 nm1 st1 us1 sp1 nm1 W
  rw [decide_eq_true rfl] at hq
  have hgt := job_guard
  go_enter Tryd.func12, Tryd.ntmps12
  go_wp2_with fail
  go_at_call 18
  refine (HT1.out _ (by (refine bel_out ?_; (focus (repeat' first | (with_reducible refine bel_refl ?_) | with_reducible assumption | with_reducible refine bel_drew ?_ | with_reducible refine bel_drewN _ ?_ | with_reducible refine bel_alloc _ ?_ | with_reducible refine bel_set ?_ _ ?_ | (with_reducible apply bel_call; with_reducible assumption) | (with_reducible apply bel_owg; with_reducible assumption; (focus omega)) | with_reducible exact Nat.le_refl _ | omega | (simp; done) | (simp; omega)))))).mono ?_
  rintro e w1 ⟨A1, n1, c1, B1, m1, d1, rfl, hL1, hM1, hb1⟩
  obtain ⟨kc1, kf1, kz1, kh1⟩ := blk_cells hb1 (g := w.heap.size) (t := 24) (cs := #[.slice A n c, .slice B m d]) (by (focus (repeat' first | with_reducible assumption | (with_reducible refine heap_drew ?_) | (with_reducible refine heap_drewN ?_) | (with_reducible refine heap_new ?_; focus (first | rfl | omega | (simp; done))) | (with_reducible refine heap_old ?_) | (with_reducible apply heap_near') | ((with_reducible show Array.setIfInBounds _ _ _ = _); rfl) | (with_reducible refine heap_far ?_ ?_; focus (first | omega | (simp; omega) | (simp; done))) | (with_reducible apply heap_grown; with_reducible assumption; (focus (first | omega | (simp; omega)))) | (with_reducible apply heap_call; with_reducible assumption))))
  obtain ⟨kc1j, kf1j, kz1j, kh1j⟩ := blk_cells hb1 (g := w.heap.size + 1) (t := 28) (cs := #[.int .i64 st, .string us, .int .i64 sp, .string nm]) (by (focus (repeat' first | with_reducible assumption | (with_reducible refine heap_drew ?_) | (with_reducible refine heap_drewN ?_) | (with_reducible refine heap_new ?_; focus (first | rfl | omega | (simp; done))) | (with_reducible refine heap_old ?_) | (with_reducible apply heap_near') | ((with_reducible show Array.setIfInBounds _ _ _ = _); rfl) | (with_reducible refine heap_far ?_ ?_; focus (first | omega | (simp; omega) | (simp; done))) | (with_reducible apply heap_grown; with_reducible assumption; (focus (first | omega | (simp; omega)))) | (with_reducible apply heap_call; with_reducible assumption))))
  have hb01 : Below w.heap.size w w1 := by (refine bel_out ?_; (focus (repeat' first | (with_reducible refine bel_refl ?_) | with_reducible assumption | with_reducible refine bel_drew ?_ | with_reducible refine bel_drewN _ ?_ | with_reducible refine bel_alloc _ ?_ | with_reducible refine bel_set ?_ _ ?_ | (with_reducible apply bel_call; with_reducible assumption) | (with_reducible apply bel_owg; with_reducible assumption; (focus omega)) | with_reducible exact Nat.le_refl _ | omega | (simp; done) | (simp; omega))))
  clear hb1 HT1
  go_wp2_with fail
  go_at_call 28
  refine (HT2.out _ (by (refine bel_out ?_; (focus (repeat' first | (with_reducible refine bel_refl ?_) | with_reducible assumption | with_reducible refine bel_drew ?_ | with_reducible refine bel_drewN _ ?_ | with_reducible refine bel_alloc _ ?_ | with_reducible refine bel_set ?_ _ ?_ | (with_reducible apply bel_call; with_reducible assumption) | (with_reducible apply bel_owg; with_reducible assumption; (focus omega)) | with_reducible exact Nat.le_refl _ | omega | (simp; done) | (simp; omega)))))).mono ?_
  rintro e w2 ⟨A2, n2, c2, B2, m2, d2, rfl, hL2, hM2, hb2⟩
  obtain ⟨kc2, kf2, kz2, kh2⟩ := blk_cells hb2 (g := w.heap.size) (t := 24) (cs := #[.slice A n c, .slice B m d]) (by (focus (repeat' first | with_reducible assumption | (with_reducible refine heap_drew ?_) | (with_reducible refine heap_drewN ?_) | (with_reducible refine heap_new ?_; focus (first | rfl | omega | (simp; done))) | (with_reducible refine heap_old ?_) | (with_reducible apply heap_near') | ((with_reducible show Array.setIfInBounds _ _ _ = _); rfl) | (with_reducible refine heap_far ?_ ?_; focus (first | omega | (simp; omega) | (simp; done))) | (with_reducible apply heap_grown; with_reducible assumption; (focus (first | omega | (simp; omega)))) | (with_reducible apply heap_call; with_reducible assumption))))
  obtain ⟨kc2j, kf2j, kz2j, kh2j⟩ := blk_cells hb2 (g := w.heap.size + 1) (t := 28) (cs := #[.int .i64 st, .string us, .int .i64 sp, .string nm]) (by (focus (repeat' first | with_reducible assumption | (with_reducible refine heap_drew ?_) | (with_reducible refine heap_drewN ?_) | (with_reducible refine heap_new ?_; focus (first | rfl | omega | (simp; done))) | (with_reducible refine heap_old ?_) | (with_reducible apply heap_near') | ((with_reducible show Array.setIfInBounds _ _ _ = _); rfl) | (with_reducible refine heap_far ?_ ?_; focus (first | omega | (simp; omega) | (simp; done))) | (with_reducible apply heap_grown; with_reducible assumption; (focus (first | omega | (simp; omega)))) | (with_reducible apply heap_call; with_reducible assumption))))
  obtain ⟨kc2a, kf2a, kz2a, kh2a⟩ := blk_cells hb2 (g := w1.heap.size) (t := 24) (cs := #[.slice A1 n1 c1, .slice B1 m1 d1]) (by (focus (repeat' first | with_reducible assumption | (with_reducible refine heap_drew ?_) | (with_reducible refine heap_drewN ?_) | (with_reducible refine heap_new ?_; focus (first | rfl | omega | (simp; done))) | (with_reducible refine heap_old ?_) | (with_reducible apply heap_near') | ((with_reducible show Array.setIfInBounds _ _ _ = _); rfl) | (with_reducible refine heap_far ?_ ?_; focus (first | omega | (simp; omega) | (simp; done))) | (with_reducible apply heap_grown; with_reducible assumption; (focus (first | omega | (simp; omega)))) | (with_reducible apply heap_call; with_reducible assumption))))
  obtain ⟨kc2b, kf2b, kz2b, kh2b⟩ := blk_cells hb2 (g := w1.heap.size + 1) (t := 28) (cs := #[.int .i64 st1, .string us1, .int .i64 sp1, .string nm1]) (by (focus (repeat' first | with_reducible assumption | (with_reducible refine heap_drew ?_) | (with_reducible refine heap_drewN ?_) | (with_reducible refine heap_new ?_; focus (first | rfl | omega | (simp; done))) | (with_reducible refine heap_old ?_) | (with_reducible apply heap_near') | ((with_reducible show Array.setIfInBounds _ _ _ = _); rfl) | (with_reducible refine heap_far ?_ ?_; focus (first | omega | (simp; omega) | (simp; done))) | (with_reducible apply heap_grown; with_reducible assumption; (focus (first | omega | (simp; omega)))) | (with_reducible apply heap_call; with_reducible assumption))))
  have hb12 : Below w1.heap.size w1 w2 := by (refine bel_out ?_; (focus (repeat' first | (with_reducible refine bel_refl ?_) | with_reducible assumption | with_reducible refine bel_drew ?_ | with_reducible refine bel_drewN _ ?_ | with_reducible refine bel_alloc _ ?_ | with_reducible refine bel_set ?_ _ ?_ | (with_reducible apply bel_call; with_reducible assumption) | (with_reducible apply bel_owg; with_reducible assumption; (focus omega)) | with_reducible exact Nat.le_refl _ | omega | (simp; done) | (simp; omega))))
  have hb02 : Below w.heap.size w w2 := below_call hb01 hb12
  have hL1' := RdJ.below hL1 hb12
  have hM1' := RdJ.below hM1 hb12
  clear hb2 HT2 hL1 hM1 hb01 hb12 kc1 kf1 kz1 kh1 kc1j kf1j kz1j kh1j
  generalize w1.heap.size = g5 at *
  go_wp2_with fail
  have hal : Below w2.heap.size w2 ((w2.alloc (.cells #[.slice A2 n2 c2, .slice B2 m2 d2] 24)).alloc (.cells #[.int .i64 st1, .string us1, .int .i64 sp1, .string nm1] 28)) := ((Below.refl _ _).alloc (Nat.le_refl _) _).alloc (by rw [size_alloc_]; omega) _
  have k8 : ((w2.alloc (.cells #[.slice A2 n2 c2, .slice B2 m2 d2] 24)).alloc (.cells #[.int .i64 st1, .string us1, .int .i64 sp1, .string nm1] 28)).heap[w2.heap.size]? = some (.cells #[.slice A2 n2 c2, .slice B2 m2 d2] 24 (0, 0)) := heap_old (heap_new rfl)
  have k9 : ((w2.alloc (.cells #[.slice A2 n2 c2, .slice B2 m2 d2] 24)).alloc (.cells #[.int .i64 st1, .string us1, .int .i64 sp1, .string nm1] 28)).heap[w2.heap.size + 1]? = some (.cells #[.int .i64 st1, .string us1, .int .i64 sp1, .string nm1] 28 (0, 0)) := heap_new (by rw [size_alloc_])
  have k0 := heap_call hal kh2
  have k1 := heap_call hal kh2j
  have k5 := heap_call hal kh2a
  have k6 := heap_call hal kh2b
  have hb9 := below_call hb02 hal
  have hL1 := RdJ.below hL1' hal
  have hM1 := RdJ.below hM1' hal
  have hL2' := RdJ.below hL2 hal
  have hM2' := RdJ.below hM2 hal
  generalize (w2.alloc (.cells #[.slice A2 n2 c2, .slice B2 m2 d2] 24)).alloc (.cells #[.int .i64 st1, .string us1, .int .i64 sp1, .string nm1] 28) = w9 at k8 k9 k0 k1 k5 k6 hb9 hL1 hM1 hL2' hM2' ⊢
  clear hal hb02 hL1' hM1' hL2 hM2 kc2 kf2 kz2 kh2 kc2j kf2j kz2j kh2j kc2a kf2a kz2a kh2a kc2b kf2b kz2b kh2b
  generalize w2.heap.size = g8 at *
  have HSQ := Lib.hid fun (W : World) (hW : Below w9.heap.size w9 W) => sameq_true A1 n1 c1 lW B1 m1 d1 lT A2 n2 c2 B2 m2 d2 W (RdJ.below hL1 hW) (RdJ.below hM1 hW) (RdJ.below hL2' hW) (RdJ.below hM2' hW)
  have HK : Hid (∀ W : World, Bel w9.heap.size w9 W → W.cell? ⟨w.heap.size, 0, none⟩ = some (.slice A n c) ∧ W.cell? ⟨w.heap.size, 1, none⟩ = some (.slice B m d) ∧ W.cell? ⟨w.heap.size + 1, 0, none⟩ = some (.int .i64 st) ∧ W.cell? ⟨w.heap.size + 1, 1, none⟩ = some (.string us) ∧ W.cell? ⟨w.heap.size + 1, 2, none⟩ = some (.int .i64 sp) ∧ W.cell? ⟨w.heap.size + 1, 3, none⟩ = some (.string nm) ∧ W.cell? ⟨g5, 0, none⟩ = some (.slice A1 n1 c1) ∧ W.cell? ⟨g5, 1, none⟩ = some (.slice B1 m1 d1) ∧ W.cell? ⟨g5 + 1, 0, none⟩ = some (.int .i64 st1) ∧ W.cell? ⟨g5 + 1, 1, none⟩ = some (.string us1) ∧ W.cell? ⟨g5 + 1, 2, none⟩ = some (.int .i64 sp1) ∧ W.cell? ⟨g5 + 1, 3, none⟩ = some (.string nm1) ∧ W.cell? ⟨g8, 0, none⟩ = some (.slice A2 n2 c2) ∧ W.cell? ⟨g8, 1, none⟩ = some (.slice B2 m2 d2) ∧ W.cell? ⟨g8 + 1, 0, none⟩ = some (.int .i64 st1) ∧ W.cell? ⟨g8 + 1, 1, none⟩ = some (.string us1) ∧ W.cell? ⟨g8 + 1, 2, none⟩ = some (.int .i64 sp1) ∧ W.cell? ⟨g8 + 1, 3, none⟩ = some (.string nm1)) := Lib.hid fun W hW => by
    have h0 := heap_call hW.2 k0
    have h1 := heap_call hW.2 k1
    have h5 := heap_call hW.2 k5
    have h6 := heap_call hW.2 k6
    have h8 := heap_call hW.2 k8
    have h9 := heap_call hW.2 k9
    exact ⟨Blk.cell h0 0, Blk.cell h0 1, Blk.cell h1 0, Blk.cell h1 1, Blk.cell h1 2, Blk.cell h1 3, Blk.cell h5 0, Blk.cell h5 1, Blk.cell h6 0, Blk.cell h6 1, Blk.cell h6 2, Blk.cell h6 3, Blk.cell h8 0, Blk.cell h8 1, Blk.cell h9 0, Blk.cell h9 1, Blk.cell h9 2, Blk.cell h9 3⟩
  have hz9w := hb9.size
  clear k0 k1 k5 k6 k8 k9 hL1 hM1 hL2' hM2'
  go_region_held3 (fun W => W.cell? ⟨w.heap.size, 0, none⟩ = some (.slice A n c) ∧ W.cell? ⟨w.heap.size, 1, none⟩ = some (.slice B m d) ∧ W.cell? ⟨w.heap.size + 1, 0, none⟩ = some (.int .i64 st) ∧ W.cell? ⟨w.heap.size + 1, 1, none⟩ = some (.string us) ∧ W.cell? ⟨w.heap.size + 1, 2, none⟩ = some (.int .i64 sp) ∧ W.cell? ⟨w.heap.size + 1, 3, none⟩ = some (.string nm) ∧ W.cell? ⟨g5, 0, none⟩ = some (.slice A1 n1 c1) ∧ W.cell? ⟨g5, 1, none⟩ = some (.slice B1 m1 d1) ∧ W.cell? ⟨g5 + 1, 0, none⟩ = some (.int .i64 st1) ∧ W.cell? ⟨g5 + 1, 1, none⟩ = some (.string us1) ∧ W.cell? ⟨g5 + 1, 2, none⟩ = some (.int .i64 sp1) ∧ W.cell? ⟨g5 + 1, 3, none⟩ = some (.string nm1) ∧ W.cell? ⟨g8, 0, none⟩ = some (.slice A2 n2 c2) ∧ W.cell? ⟨g8, 1, none⟩ = some (.slice B2 m2 d2) ∧ W.cell? ⟨g8 + 1, 0, none⟩ = some (.int .i64 st1) ∧ W.cell? ⟨g8 + 1, 1, none⟩ = some (.string us1) ∧ W.cell? ⟨g8 + 1, 2, none⟩ = some (.int .i64 sp1) ∧ W.cell? ⟨g8 + 1, 3, none⟩ = some (.string nm1))
    ((refine HK.out _ ?_; (focus (repeat' first | (with_reducible refine bel_refl ?_) | with_reducible assumption | with_reducible refine bel_drew ?_ | with_reducible refine bel_drewN _ ?_ | with_reducible refine bel_alloc _ ?_ | with_reducible refine bel_set ?_ _ ?_ | (with_reducible apply bel_call; with_reducible assumption) | (with_reducible apply bel_owg; with_reducible assumption; (focus omega)) | with_reducible exact Nat.le_refl _ | omega | (simp; done) | (simp; omega))); done))
    (first
      | (go_at_call 17; ((with_reducible refine (HV1.out _ ?_).mono ?_); (focus (refine bel_out ?_; (focus (repeat' first | (with_reducible refine bel_refl ?_) | with_reducible assumption | with_reducible refine bel_drew ?_ | with_reducible refine bel_drewN _ ?_ | with_reducible refine bel_alloc _ ?_ | with_reducible refine bel_set ?_ _ ?_ | (with_reducible apply bel_call; with_reducible assumption) | (with_reducible apply bel_owg; with_reducible assumption; (focus omega)) | with_reducible exact Nat.le_refl _ | omega | (simp; done) | (simp; omega))))); rintro e v1 ⟨rfl, hv1⟩))
      | (go_at_call 31; ((with_reducible refine (HV2.out _ ?_).mono ?_); (focus (refine bel_out ?_; (focus (repeat' first | (with_reducible refine bel_refl ?_) | with_reducible assumption | with_reducible refine bel_drew ?_ | with_reducible refine bel_drewN _ ?_ | with_reducible refine bel_alloc _ ?_ | with_reducible refine bel_set ?_ _ ?_ | (with_reducible apply bel_call; with_reducible assumption) | (with_reducible apply bel_owg; with_reducible assumption; (focus omega)) | with_reducible exact Nat.le_refl _ | omega | (simp; done) | (simp; omega))))); rintro e v2 ⟨rfl, hv2⟩))
      | (go_at_call 25; ((with_reducible refine (HE1.out _).mono ?_); rintro e v3 ⟨rfl, hv3⟩))
      | (go_at_call 32; ((with_reducible refine (HE2.out _).mono ?_); rintro e v4 ⟨rfl, hv4⟩))
      | (go_at_call 23; ((with_reducible refine (HSQ.out _ ?_).mono ?_); (focus (refine bel_out ?_; (focus (repeat' first | (with_reducible refine bel_refl ?_) | with_reducible assumption | with_reducible refine bel_drew ?_ | with_reducible refine bel_drewN _ ?_ | with_reducible refine bel_alloc _ ?_ | with_reducible refine bel_set ?_ _ ?_ | (with_reducible apply bel_call; with_reducible assumption) | (with_reducible apply bel_owg; with_reducible assumption; (focus omega)) | with_reducible exact Nat.le_refl _ | omega | (simp; done) | (simp; omega))))); rintro e v5 ⟨rfl, hv5⟩))
      | (go_at_call 19; ((with_reducible refine (HA1.out _ ?_).mono ?_); (focus (refine bel_out ?_; (focus (repeat' first | (with_reducible refine bel_refl ?_) | with_reducible assumption | with_reducible refine bel_drew ?_ | with_reducible refine bel_drewN _ ?_ | with_reducible refine bel_alloc _ ?_ | with_reducible refine bel_set ?_ _ ?_ | (with_reducible apply bel_call; with_reducible assumption) | (with_reducible apply bel_owg; with_reducible assumption; (focus omega)) | with_reducible exact Nat.le_refl _ | omega | (simp; done) | (simp; omega))))); rintro e v6a ⟨A6a, n6a, c6a, B6a, m6a, d6a, rfl, hL6a, hM6a, hv6a⟩))
      | (go_at_call 27; ((with_reducible refine (HA2.out _ ?_).mono ?_); (focus (refine bel_out ?_; (focus (repeat' first | (with_reducible refine bel_refl ?_) | with_reducible assumption | with_reducible refine bel_drew ?_ | with_reducible refine bel_drewN _ ?_ | with_reducible refine bel_alloc _ ?_ | with_reducible refine bel_set ?_ _ ?_ | (with_reducible apply bel_call; with_reducible assumption) | (with_reducible apply bel_owg; with_reducible assumption; (focus omega)) | with_reducible exact Nat.le_refl _ | omega | (simp; done) | (simp; omega))))); rintro e v6b ⟨A6b, n6b, c6b, B6b, m6b, d6b, rfl, hL6b, hM6b, hv6b⟩))
      | (go_at_call 23; ((with_reducible refine (sameq_true A6a n6a c6a lA B6a m6a d6a M A6b n6b c6b B6b m6b d6b _ (RdJ.below hL6a hv6b) (RdJ.below hM6a hv6b) hL6b hM6b).mono ?_); rintro e v6c ⟨rfl, hv6c⟩))
      | (go_at_call 20; ((with_reducible refine (HD1.out _ ?_).mono ?_); (focus (refine bel_out ?_; (focus (repeat' first | (with_reducible refine bel_refl ?_) | with_reducible assumption | with_reducible refine bel_drew ?_ | with_reducible refine bel_drewN _ ?_ | with_reducible refine bel_alloc _ ?_ | with_reducible refine bel_set ?_ _ ?_ | (with_reducible apply bel_call; with_reducible assumption) | (with_reducible apply bel_owg; with_reducible assumption; (focus omega)) | with_reducible exact Nat.le_refl _ | omega | (simp; done) | (simp; omega))))); rintro e v7a ⟨A7a, n7a, c7a, B7a, m7a, d7a, rfl, hL7a, hM7a, hv7a⟩))
      | (go_at_call 29; ((with_reducible refine (HD2.out _ ?_).mono ?_); (focus (refine bel_out ?_; (focus (repeat' first | (with_reducible refine bel_refl ?_) | with_reducible assumption | with_reducible refine bel_drew ?_ | with_reducible refine bel_drewN _ ?_ | with_reducible refine bel_alloc _ ?_ | with_reducible refine bel_set ?_ _ ?_ | (with_reducible apply bel_call; with_reducible assumption) | (with_reducible apply bel_owg; with_reducible assumption; (focus omega)) | with_reducible exact Nat.le_refl _ | omega | (simp; done) | (simp; omega))))); rintro e v7b ⟨A7b, n7b, c7b, B7b, m7b, d7b, rfl, hL7b, hM7b, hv7b⟩))
      | (go_at_call 23; ((with_reducible refine (sameq_true A7a n7a c7a L B7a m7a d7a lD A7b n7b c7b B7b m7b d7b _ (RdJ.below hL7a hv7b) (RdJ.below hM7a hv7b) hL7b hM7b).mono ?_); rintro e v7c ⟨rfl, hv7c⟩))
      | (go_at_call 21; ((with_reducible refine (HB1.out _ ?_).mono ?_); (focus (refine bel_out ?_; (focus (repeat' first | (with_reducible refine bel_refl ?_) | with_reducible assumption | with_reducible refine bel_drew ?_ | with_reducible refine bel_drewN _ ?_ | with_reducible refine bel_alloc _ ?_ | with_reducible refine bel_set ?_ _ ?_ | (with_reducible apply bel_call; with_reducible assumption) | (with_reducible apply bel_owg; with_reducible assumption; (focus omega)) | with_reducible exact Nat.le_refl _ | omega | (simp; done) | (simp; omega))))); rintro e v8a ⟨A8a, n8a, c8a, B8a, m8a, d8a, rfl, hL8a, hM8a, hv8a⟩))
      | (go_at_call 30; ((with_reducible refine (HB2.out _ ?_).mono ?_); (focus (refine bel_out ?_; (focus (repeat' first | (with_reducible refine bel_refl ?_) | with_reducible assumption | with_reducible refine bel_drew ?_ | with_reducible refine bel_drewN _ ?_ | with_reducible refine bel_alloc _ ?_ | with_reducible refine bel_set ?_ _ ?_ | (with_reducible apply bel_call; with_reducible assumption) | (with_reducible apply bel_owg; with_reducible assumption; (focus omega)) | with_reducible exact Nat.le_refl _ | omega | (simp; done) | (simp; omega))))); rintro e v8b ⟨A8b, n8b, c8b, B8b, m8b, d8b, rfl, hL8b, hM8b, hv8b⟩))
      | (go_at_call 23; ((with_reducible refine (sameq_true A8a n8a c8a lA B8a m8a d8a lD A8b n8b c8b B8b m8b d8b _ (RdJ.below hL8a hv8b) (RdJ.below hM8a hv8b) hL8b hM8b).mono ?_); rintro e v8c ⟨rfl, hv8c⟩)))
  all_goals
    go_wp2
    go_ret
    exact ⟨by rfl, by (refine bel_out ?_; (focus (repeat' first | (with_reducible refine bel_refl ?_) | with_reducible assumption | with_reducible refine bel_drew ?_ | with_reducible refine bel_drewN _ ?_ | with_reducible refine bel_alloc _ ?_ | with_reducible refine bel_set ?_ _ ?_ | (with_reducible apply bel_call; with_reducible assumption) | (with_reducible apply bel_owg; with_reducible assumption; (focus omega)) | with_reducible exact Nat.le_refl _ | omega | (simp; done) | (simp; omega))))⟩
end Go.Proofs.YtobgnncdldfkkaaDoor
