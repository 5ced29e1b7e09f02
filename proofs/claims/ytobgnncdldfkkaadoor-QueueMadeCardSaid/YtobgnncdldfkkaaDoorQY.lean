/- The walk of awake. -/
import Derived.Test.YtobgnncdldfkkaaDoorQV
import Derived.Test.YtobgnncdldfkkaaDoorQI
import Derived.Test.YtobgnncdldfkkaaDoorQJ
import Derived.Deep.DeepCutAuto
namespace Go.Proofs.YtobgnncdldfkkaaDoor
open Go.RowKit
set_option linter.unusedSimpArgs false
set_option linter.unusedVariables false

def jR : Jb := ⟨2, ⟨#[97, 110, 110]⟩, 0, ⟨#[65]⟩⟩
def jJ : Jb := ⟨1, ⟨#[]⟩, 0, ⟨#[65]⟩⟩
theorem ak1 : addL [] jR = [jR] := by decide +kernel
theorem ak2 : addL [jR] jJ = [jR, jJ] := by decide +kernel
theorem ak3 : addL [jR, jJ] jR = [jR, jJ] := by decide +kernel
theorem ak4 : tkW [jR, jJ] [] = [jR] ∧ tkT [jR, jJ] [] = [jJ] ∧ tkJ [jR, jJ] [] = jJ ∧ tkOk [jR, jJ] [] = true := by decide +kernel
theorem ak5 : tkOk [jR] [jJ] = false := by decide +kernel
theorem ak6 : doneL [jJ] jJ = [] := by decide +kernel
theorem ak7 : tkW [jR] [] = [] ∧ tkT [jR] [] = [jR] ∧ tkJ [jR] [] = jR ∧ tkOk [jR] [] = true := by decide +kernel
theorem ak8 : qv [] [jR] = true := by kernel_rfl
theorem ak9 : doneL [jR] jR = [] := by decide +kernel
theorem jR_val : jR.val = .agg #[.int .i64 2, .string ⟨#[97, 110, 110]⟩, .int .i64 0, .string ⟨#[65]⟩] := rfl
theorem jJ_val : jJ.val = .agg #[.int .i64 1, .string ⟨#[]⟩, .int .i64 0, .string ⟨#[65]⟩] := rfl

set_option maxRecDepth 100000 in
set_option maxHeartbeats 16000000 in
theorem awake_any (x : Int) (w : World) (hx : Hm x w) :
    Calls Tryd.prog 11 #[] w fun e w' => e = .returned (.bool true) ∧ Below w.heap.size w w' := by
  have HX := Lib.hid fun (W : World) (hW : Below w.heap.size w W) => hx.below hW
  go_enter Tryd.func11, Tryd.ntmps11
  go_upto_region 2 with fail
  go_cut [2, 3] (fun v2 v3 wx => ∃ g2 g3 : Nat, v2 = .pointer (some ⟨g2, 0, none⟩) ∧ v3 = .pointer (some ⟨g3, 0, none⟩) ∧ wx.heap[g2]? = some (.cells #[.int .i64 2, .string ⟨#[97, 110, 110]⟩, .int .i64 0, .string ⟨#[65]⟩] 28 (0, 0)) ∧ wx.heap[g3]? = some (.cells #[.int .i64 1, .string ⟨#[]⟩, .int .i64 0, .string ⟨#[65]⟩] 28 (0, 0)) ∧ Below w.heap.size w wx)
  case first =>
    go_region
    all_goals
      go_wp2_with fail
      go_meet
      exact ⟨_, _, rfl, rfl, by (focus (repeat' first | with_reducible assumption | (with_reducible refine heap_drew ?_) | (with_reducible refine heap_drewN ?_) | (with_reducible refine heap_new ?_; focus (first | rfl | omega | (simp; done))) | (with_reducible refine heap_old ?_) | (with_reducible apply heap_near') | ((with_reducible show Array.setIfInBounds _ _ _ = _); rfl) | (with_reducible refine heap_far ?_ ?_; focus (first | omega | (simp; omega) | (simp; done))) | (with_reducible apply heap_grown; with_reducible assumption; (focus (first | omega | (simp; omega)))) | (with_reducible apply heap_call; with_reducible assumption))), by (focus (repeat' first | with_reducible assumption | (with_reducible refine heap_drew ?_) | (with_reducible refine heap_drewN ?_) | (with_reducible refine heap_new ?_; focus (first | rfl | omega | (simp; done))) | (with_reducible refine heap_old ?_) | (with_reducible apply heap_near') | ((with_reducible show Array.setIfInBounds _ _ _ = _); rfl) | (with_reducible refine heap_far ?_ ?_; focus (first | omega | (simp; omega) | (simp; done))) | (with_reducible apply heap_grown; with_reducible assumption; (focus (first | omega | (simp; omega)))) | (with_reducible apply heap_call; with_reducible assumption))), by (refine bel_out ?_; (focus (repeat' first | (with_reducible refine bel_refl ?_) | with_reducible assumption | with_reducible refine bel_drew ?_ | with_reducible refine bel_drewN _ ?_ | with_reducible refine bel_alloc _ ?_ | with_reducible refine bel_set ?_ _ ?_ | (with_reducible apply bel_call; with_reducible assumption) | (with_reducible apply bel_owg; with_reducible assumption; (focus omega)) | with_reducible exact Nat.le_refl _ | omega | (simp; done) | (simp; omega))))⟩
  obtain ⟨g2, g3, rfl, rfl, h2, h3, hb⟩ := hcut
  obtain ⟨w0, rfl⟩ : ∃ q, q = wc := ⟨_, rfl⟩
  have HA1 : Hid (∀ W : World, Calls Tryd.prog 19 #[.agg #[.slice none 0 0, .slice none 0 0], .agg #[.int .i64 2, .string ⟨#[97, 110, 110]⟩, .int .i64 0, .string ⟨#[65]⟩]] W (RRdQ W [jR] [])) := Lib.hid fun W => by
    have := add_any none 0 0 [] none 0 0 [] jR W (RdR.nil _ _ _) (RdR.nil _ _ _) (by omega) (by omega)
    rw [ak1] at this
    exact this
  have HA2 : Hid (∀ (W : World) (A : Option Addr) (n c : Nat) (B : Option Addr) (m d : Nat), RdR RJ 4 W A n c [jR] → RdR RJ 4 W B m d [] → Calls Tryd.prog 19 #[.agg #[.slice A n c, .slice B m d], .agg #[.int .i64 1, .string ⟨#[]⟩, .int .i64 0, .string ⟨#[65]⟩]] W (RRdQ W [jR, jJ] [])) := Lib.hid fun W A n c B m d h1 h2 => by
    have := add_any A n c [jR] B m d [] jJ W h1 h2 (by rw [h1.len]; decide) (by rw [h2.len]; decide)
    rw [ak2] at this
    exact this
  have HA3 : Hid (∀ (W : World) (A : Option Addr) (n c : Nat) (B : Option Addr) (m d : Nat), RdR RJ 4 W A n c [jR, jJ] → RdR RJ 4 W B m d [] → Calls Tryd.prog 19 #[.agg #[.slice A n c, .slice B m d], .agg #[.int .i64 2, .string ⟨#[97, 110, 110]⟩, .int .i64 0, .string ⟨#[65]⟩]] W (RRdQ W [jR, jJ] [])) := Lib.hid fun W A n c B m d h1 h2 => by
    have := add_any A n c [jR, jJ] B m d [] jR W h1 h2 (by rw [h1.len]; decide) (by rw [h2.len]; decide)
    rw [ak3] at this
    exact this
  have HK : Hid (∀ W : World, Bel w0.heap.size w0 W → W.cell? ⟨g2, 0, none⟩ = some (.int .i64 2) ∧ W.cell? ⟨g2, 1, none⟩ = some (.string ⟨#[97, 110, 110]⟩) ∧ W.cell? ⟨g2, 2, none⟩ = some (.int .i64 0) ∧ W.cell? ⟨g2, 3, none⟩ = some (.string ⟨#[65]⟩) ∧ W.cell? ⟨g3, 0, none⟩ = some (.int .i64 1) ∧ W.cell? ⟨g3, 1, none⟩ = some (.string ⟨#[]⟩) ∧ W.cell? ⟨g3, 2, none⟩ = some (.int .i64 0) ∧ W.cell? ⟨g3, 3, none⟩ = some (.string ⟨#[65]⟩)) := Lib.hid fun W hW => by
    have h2' := heap_call hW.2 h2
    have h3' := heap_call hW.2 h3
    exact ⟨Blk.cell h2' 0, Blk.cell h2' 1, Blk.cell h2' 2, Blk.cell h2' 3, Blk.cell h3' 0, Blk.cell h3' 1, Blk.cell h3' 2, Blk.cell h3' 3⟩
  go_upto_region 3 with fail
  go_cut [4] (fun v4 wx => ∃ (g4 : Nat) (A3 : Option Addr) (n3 c3 : Nat) (B3 : Option Addr) (m3 d3 : Nat), v4 = .pointer (some ⟨g4, 0, none⟩) ∧ wx.heap[g4]? = some (.cells #[.slice A3 n3 c3, .slice B3 m3 d3] 24 (0, 0)) ∧ RdR RJ 4 wx A3 n3 c3 [jR, jJ] ∧ RdR RJ 4 wx B3 m3 d3 [] ∧ wx.heap[g2]? = some (.cells #[.int .i64 2, .string ⟨#[97, 110, 110]⟩, .int .i64 0, .string ⟨#[65]⟩] 28 (0, 0)) ∧ wx.heap[g3]? = some (.cells #[.int .i64 1, .string ⟨#[]⟩, .int .i64 0, .string ⟨#[65]⟩] 28 (0, 0)) ∧ Below w0.heap.size w0 wx ∧ g4 ≠ g2 ∧ g4 ≠ g3 ∧ w0.heap.size ≤ g4)
  case first =>
   go_region_held3 (fun W => W.cell? ⟨g2, 0, none⟩ = some (.int .i64 2) ∧ W.cell? ⟨g2, 1, none⟩ = some (.string ⟨#[97, 110, 110]⟩) ∧ W.cell? ⟨g2, 2, none⟩ = some (.int .i64 0) ∧ W.cell? ⟨g2, 3, none⟩ = some (.string ⟨#[65]⟩) ∧ W.cell? ⟨g3, 0, none⟩ = some (.int .i64 1) ∧ W.cell? ⟨g3, 1, none⟩ = some (.string ⟨#[]⟩) ∧ W.cell? ⟨g3, 2, none⟩ = some (.int .i64 0) ∧ W.cell? ⟨g3, 3, none⟩ = some (.string ⟨#[65]⟩))
     ((refine HK.out _ ?_; (focus (repeat' first | (with_reducible refine bel_refl ?_) | with_reducible assumption | with_reducible refine bel_drew ?_ | with_reducible refine bel_drewN _ ?_ | with_reducible refine bel_alloc _ ?_ | with_reducible refine bel_set ?_ _ ?_ | (with_reducible apply bel_call; with_reducible assumption) | (with_reducible apply bel_owg; with_reducible assumption; (focus omega)) | with_reducible exact Nat.le_refl _ | omega | (simp; done) | (simp; omega))); done))
     (first
       | (go_at_call 19; ((with_reducible refine (HA1.out _).mono ?_); rintro e w1 ⟨A1, n1, c1, B1, m1, d1, rfl, hL1, hM1, hb1⟩; (have hz1 : w0.heap.size ≤ w1.heap.size := by refine Below.size (B := w0.heap.size) (w := w0) ?_; (refine bel_out ?_; (focus (repeat' first | (with_reducible refine bel_refl ?_) | with_reducible assumption | with_reducible refine bel_drew ?_ | with_reducible refine bel_drewN _ ?_ | with_reducible refine bel_alloc _ ?_ | with_reducible refine bel_set ?_ _ ?_ | (with_reducible apply bel_call; with_reducible assumption) | (with_reducible apply bel_owg; with_reducible assumption; (focus omega)) | with_reducible exact Nat.le_refl _ | omega | (simp; done) | (simp; omega))))); (first | ((refine blk_do (g := w0.heap.size) (t := 24) (cs := #[.slice none 0 0, .slice none 0 0]) hb1 ?_ ?_; (focus ((focus (repeat' first | with_reducible assumption | (with_reducible refine heap_drew ?_) | (with_reducible refine heap_drewN ?_) | (with_reducible refine heap_new ?_; focus (first | rfl | omega | (simp; done))) | (with_reducible refine heap_old ?_) | (with_reducible apply heap_near') | ((with_reducible show Array.setIfInBounds _ _ _ = _); rfl) | (with_reducible refine heap_far ?_ ?_; focus (first | omega | (simp; omega) | (simp; done))) | (with_reducible apply heap_grown; with_reducible assumption; (focus (first | omega | (simp; omega)))) | (with_reducible apply heap_call; with_reducible assumption))); done)); intro kca1 kfa1 kza1 kha1)) | skip)))
       | (go_at_call 19; ((with_reducible refine (HA2.out _ _ _ _ _ _ _ (RdJ.below hL1 ?_) (RdJ.below hM1 ?_)).mono ?_); (focus (refine bel_out ?_; (focus (repeat' first | (with_reducible refine bel_refl ?_) | with_reducible assumption | with_reducible refine bel_drew ?_ | with_reducible refine bel_drewN _ ?_ | with_reducible refine bel_alloc _ ?_ | with_reducible refine bel_set ?_ _ ?_ | (with_reducible apply bel_call; with_reducible assumption) | (with_reducible apply bel_owg; with_reducible assumption; (focus omega)) | with_reducible exact Nat.le_refl _ | omega | (simp; done) | (simp; omega))))); (focus (refine bel_out ?_; (focus (repeat' first | (with_reducible refine bel_refl ?_) | with_reducible assumption | with_reducible refine bel_drew ?_ | with_reducible refine bel_drewN _ ?_ | with_reducible refine bel_alloc _ ?_ | with_reducible refine bel_set ?_ _ ?_ | (with_reducible apply bel_call; with_reducible assumption) | (with_reducible apply bel_owg; with_reducible assumption; (focus omega)) | with_reducible exact Nat.le_refl _ | omega | (simp; done) | (simp; omega))))); rintro e w2 ⟨A2, n2, c2, B2, m2, d2, rfl, hL2, hM2, hb2⟩; (have hz2 : w0.heap.size ≤ w2.heap.size := by refine Below.size (B := w0.heap.size) (w := w0) ?_; (refine bel_out ?_; (focus (repeat' first | (with_reducible refine bel_refl ?_) | with_reducible assumption | with_reducible refine bel_drew ?_ | with_reducible refine bel_drewN _ ?_ | with_reducible refine bel_alloc _ ?_ | with_reducible refine bel_set ?_ _ ?_ | (with_reducible apply bel_call; with_reducible assumption) | (with_reducible apply bel_owg; with_reducible assumption; (focus omega)) | with_reducible exact Nat.le_refl _ | omega | (simp; done) | (simp; omega))))); (first | ((refine blk_do (g := w0.heap.size) (t := 24) (cs := #[.slice none 0 0, .slice none 0 0]) hb2 ?_ ?_; (focus ((focus (repeat' first | with_reducible assumption | (with_reducible refine heap_drew ?_) | (with_reducible refine heap_drewN ?_) | (with_reducible refine heap_new ?_; focus (first | rfl | omega | (simp; done))) | (with_reducible refine heap_old ?_) | (with_reducible apply heap_near') | ((with_reducible show Array.setIfInBounds _ _ _ = _); rfl) | (with_reducible refine heap_far ?_ ?_; focus (first | omega | (simp; omega) | (simp; done))) | (with_reducible apply heap_grown; with_reducible assumption; (focus (first | omega | (simp; omega)))) | (with_reducible apply heap_call; with_reducible assumption))); done)); intro kca2 kfa2 kza2 kha2)) | skip); (first | ((refine blk_do (g := w1.heap.size) (t := 24) (cs := #[.slice none 0 0, .slice none 0 0]) hb2 ?_ ?_; (focus ((focus (repeat' first | with_reducible assumption | (with_reducible refine heap_drew ?_) | (with_reducible refine heap_drewN ?_) | (with_reducible refine heap_new ?_; focus (first | rfl | omega | (simp; done))) | (with_reducible refine heap_old ?_) | (with_reducible apply heap_near') | ((with_reducible show Array.setIfInBounds _ _ _ = _); rfl) | (with_reducible refine heap_far ?_ ?_; focus (first | omega | (simp; omega) | (simp; done))) | (with_reducible apply heap_grown; with_reducible assumption; (focus (first | omega | (simp; omega)))) | (with_reducible apply heap_call; with_reducible assumption))); done)); intro kcb2 kfb2 kzb2 khb2)) | skip)))
       | (go_at_call 19; ((with_reducible refine (HA3.out _ _ _ _ _ _ _ (RdJ.below hL2 ?_) (RdJ.below hM2 ?_)).mono ?_); (focus (refine bel_out ?_; (focus (repeat' first | (with_reducible refine bel_refl ?_) | with_reducible assumption | with_reducible refine bel_drew ?_ | with_reducible refine bel_drewN _ ?_ | with_reducible refine bel_alloc _ ?_ | with_reducible refine bel_set ?_ _ ?_ | (with_reducible apply bel_call; with_reducible assumption) | (with_reducible apply bel_owg; with_reducible assumption; (focus omega)) | with_reducible exact Nat.le_refl _ | omega | (simp; done) | (simp; omega))))); (focus (refine bel_out ?_; (focus (repeat' first | (with_reducible refine bel_refl ?_) | with_reducible assumption | with_reducible refine bel_drew ?_ | with_reducible refine bel_drewN _ ?_ | with_reducible refine bel_alloc _ ?_ | with_reducible refine bel_set ?_ _ ?_ | (with_reducible apply bel_call; with_reducible assumption) | (with_reducible apply bel_owg; with_reducible assumption; (focus omega)) | with_reducible exact Nat.le_refl _ | omega | (simp; done) | (simp; omega))))); rintro e w3 ⟨A3, n3, c3, B3, m3, d3, rfl, hL3, hM3, hb3⟩; (have hz3 : w0.heap.size ≤ w3.heap.size := by refine Below.size (B := w0.heap.size) (w := w0) ?_; (refine bel_out ?_; (focus (repeat' first | (with_reducible refine bel_refl ?_) | with_reducible assumption | with_reducible refine bel_drew ?_ | with_reducible refine bel_drewN _ ?_ | with_reducible refine bel_alloc _ ?_ | with_reducible refine bel_set ?_ _ ?_ | (with_reducible apply bel_call; with_reducible assumption) | (with_reducible apply bel_owg; with_reducible assumption; (focus omega)) | with_reducible exact Nat.le_refl _ | omega | (simp; done) | (simp; omega))))); (first | ((refine blk_do (g := w0.heap.size) (t := 24) (cs := #[.slice none 0 0, .slice none 0 0]) hb3 ?_ ?_; (focus ((focus (repeat' first | with_reducible assumption | (with_reducible refine heap_drew ?_) | (with_reducible refine heap_drewN ?_) | (with_reducible refine heap_new ?_; focus (first | rfl | omega | (simp; done))) | (with_reducible refine heap_old ?_) | (with_reducible apply heap_near') | ((with_reducible show Array.setIfInBounds _ _ _ = _); rfl) | (with_reducible refine heap_far ?_ ?_; focus (first | omega | (simp; omega) | (simp; done))) | (with_reducible apply heap_grown; with_reducible assumption; (focus (first | omega | (simp; omega)))) | (with_reducible apply heap_call; with_reducible assumption))); done)); intro kca3 kfa3 kza3 kha3)) | skip); (first | ((refine blk_do (g := w1.heap.size) (t := 24) (cs := #[.slice none 0 0, .slice none 0 0]) hb3 ?_ ?_; (focus ((focus (repeat' first | with_reducible assumption | (with_reducible refine heap_drew ?_) | (with_reducible refine heap_drewN ?_) | (with_reducible refine heap_new ?_; focus (first | rfl | omega | (simp; done))) | (with_reducible refine heap_old ?_) | (with_reducible apply heap_near') | ((with_reducible show Array.setIfInBounds _ _ _ = _); rfl) | (with_reducible refine heap_far ?_ ?_; focus (first | omega | (simp; omega) | (simp; done))) | (with_reducible apply heap_grown; with_reducible assumption; (focus (first | omega | (simp; omega)))) | (with_reducible apply heap_call; with_reducible assumption))); done)); intro kcb3 kfb3 kzb3 khb3)) | skip); (first | ((refine blk_do (g := w2.heap.size) (t := 24) (cs := #[.slice none 0 0, .slice none 0 0]) hb3 ?_ ?_; (focus ((focus (repeat' first | with_reducible assumption | (with_reducible refine heap_drew ?_) | (with_reducible refine heap_drewN ?_) | (with_reducible refine heap_new ?_; focus (first | rfl | omega | (simp; done))) | (with_reducible refine heap_old ?_) | (with_reducible apply heap_near') | ((with_reducible show Array.setIfInBounds _ _ _ = _); rfl) | (with_reducible refine heap_far ?_ ?_; focus (first | omega | (simp; omega) | (simp; done))) | (with_reducible apply heap_grown; with_reducible assumption; (focus (first | omega | (simp; omega)))) | (with_reducible apply heap_call; with_reducible assumption))); done)); intro kcc3 kfc3 kzc3 khc3)) | skip))))
   all_goals
     have hl2 := Blk.lt h2
     have hl3 := Blk.lt h3
     go_wp2_with fail
     go_meet
     refine ⟨_, A3, n3, c3, B3, m3, d3, rfl, ?_, ?_, ?_, ?_, ?_, ?_, ?_, ?_, ?_⟩
     · (focus (repeat' first | with_reducible assumption | (with_reducible refine heap_drew ?_) | (with_reducible refine heap_drewN ?_) | (with_reducible refine heap_new ?_; focus (first | rfl | omega | (simp; done))) | (with_reducible refine heap_old ?_) | (with_reducible apply heap_near') | ((with_reducible show Array.setIfInBounds _ _ _ = _); rfl) | (with_reducible refine heap_far ?_ ?_; focus (first | omega | (simp; omega) | (simp; done))) | (with_reducible apply heap_grown; with_reducible assumption; (focus (first | omega | (simp; omega)))) | (with_reducible apply heap_call; with_reducible assumption)))
     · (first | (refine RdJ.setQ (A1 := A3) (n1 := n3) (c1 := c3) (A2 := none) (n2 := 0) (c2 := 0) (t := 24) (fr := (0, 0)) (RdJ.setQ (A1 := none) (n1 := 0) (c1 := 0) (A2 := none) (n2 := 0) (c2 := 0) (t := 24) (fr := (0, 0)) hL3 ?_ _ _) ?_ _ _ <;> ((focus (repeat' first | with_reducible assumption | (with_reducible refine heap_drew ?_) | (with_reducible refine heap_drewN ?_) | (with_reducible refine heap_new ?_; focus (first | rfl | omega | (simp; done))) | (with_reducible refine heap_old ?_) | (with_reducible apply heap_near') | ((with_reducible show Array.setIfInBounds _ _ _ = _); rfl) | (with_reducible refine heap_far ?_ ?_; focus (first | omega | (simp; omega) | (simp; done))) | (with_reducible apply heap_grown; with_reducible assumption; (focus (first | omega | (simp; omega)))) | (with_reducible apply heap_call; with_reducible assumption))); done)) | (refine RdJ.below hL3 ?_; (refine bel_out ?_; (focus (repeat' first | (with_reducible refine bel_refl ?_) | with_reducible assumption | with_reducible refine bel_drew ?_ | with_reducible refine bel_drewN _ ?_ | with_reducible refine bel_alloc _ ?_ | with_reducible refine bel_set ?_ _ ?_ | (with_reducible apply bel_call; with_reducible assumption) | (with_reducible apply bel_owg; with_reducible assumption; (focus omega)) | with_reducible exact Nat.le_refl _ | omega | (simp; done) | (simp; omega)))); done))
     · (first | (refine RdJ.setQ (A1 := A3) (n1 := n3) (c1 := c3) (A2 := none) (n2 := 0) (c2 := 0) (t := 24) (fr := (0, 0)) (RdJ.setQ (A1 := none) (n1 := 0) (c1 := 0) (A2 := none) (n2 := 0) (c2 := 0) (t := 24) (fr := (0, 0)) hM3 ?_ _ _) ?_ _ _ <;> ((focus (repeat' first | with_reducible assumption | (with_reducible refine heap_drew ?_) | (with_reducible refine heap_drewN ?_) | (with_reducible refine heap_new ?_; focus (first | rfl | omega | (simp; done))) | (with_reducible refine heap_old ?_) | (with_reducible apply heap_near') | ((with_reducible show Array.setIfInBounds _ _ _ = _); rfl) | (with_reducible refine heap_far ?_ ?_; focus (first | omega | (simp; omega) | (simp; done))) | (with_reducible apply heap_grown; with_reducible assumption; (focus (first | omega | (simp; omega)))) | (with_reducible apply heap_call; with_reducible assumption))); done)) | (refine RdJ.below hM3 ?_; (refine bel_out ?_; (focus (repeat' first | (with_reducible refine bel_refl ?_) | with_reducible assumption | with_reducible refine bel_drew ?_ | with_reducible refine bel_drewN _ ?_ | with_reducible refine bel_alloc _ ?_ | with_reducible refine bel_set ?_ _ ?_ | (with_reducible apply bel_call; with_reducible assumption) | (with_reducible apply bel_owg; with_reducible assumption; (focus omega)) | with_reducible exact Nat.le_refl _ | omega | (simp; done) | (simp; omega)))); done))
     · (focus (repeat' first | with_reducible assumption | (with_reducible refine heap_drew ?_) | (with_reducible refine heap_drewN ?_) | (with_reducible refine heap_new ?_; focus (first | rfl | omega | (simp; done))) | (with_reducible refine heap_old ?_) | (with_reducible apply heap_near') | ((with_reducible show Array.setIfInBounds _ _ _ = _); rfl) | (with_reducible refine heap_far ?_ ?_; focus (first | omega | (simp; omega) | (simp; done))) | (with_reducible apply heap_grown; with_reducible assumption; (focus (first | omega | (simp; omega)))) | (with_reducible apply heap_call; with_reducible assumption)))
     · (focus (repeat' first | with_reducible assumption | (with_reducible refine heap_drew ?_) | (with_reducible refine heap_drewN ?_) | (with_reducible refine heap_new ?_; focus (first | rfl | omega | (simp; done))) | (with_reducible refine heap_old ?_) | (with_reducible apply heap_near') | ((with_reducible show Array.setIfInBounds _ _ _ = _); rfl) | (with_reducible refine heap_far ?_ ?_; focus (first | omega | (simp; omega) | (simp; done))) | (with_reducible apply heap_grown; with_reducible assumption; (focus (first | omega | (simp; omega)))) | (with_reducible apply heap_call; with_reducible assumption)))
     · (refine bel_out ?_; (focus (repeat' first | (with_reducible refine bel_refl ?_) | with_reducible assumption | with_reducible refine bel_drew ?_ | with_reducible refine bel_drewN _ ?_ | with_reducible refine bel_alloc _ ?_ | with_reducible refine bel_set ?_ _ ?_ | (with_reducible apply bel_call; with_reducible assumption) | (with_reducible apply bel_owg; with_reducible assumption; (focus omega)) | with_reducible exact Nat.le_refl _ | omega | (simp; done) | (simp; omega))))
     · omega
     · omega
     · omega
  obtain ⟨g4, A3, n3, c3, B3, m3, d3, rfl, k4, hL4, hM4, kg2', kg3', hbc, hne2, hne3, hg40⟩ := hcut
  have hwg : w.heap.size ≤ g4 := Nat.le_trans hb.size hg40
  obtain ⟨w4, rfl⟩ : ∃ q, q = wc := ⟨_, rfl⟩
  have kc4 := Blk.cell k4
  have hne2' := hne2.symm
  have hne3' := hne3.symm
  have hb04 : Below w.heap.size w w4 := below_call hb hbc
  clear HK HA1 HA2 HA3 h2 h3 hb hbc
  have HT4 := take_any A3 n3 c3 [jR, jJ] B3 m3 d3 [] x w4 hL4 hM4 (HX.out w4 hb04) (by rw [hL4.len]; decide) (by rw [hM4.len]; decide)
  rw [ak4.1, ak4.2.1, ak4.2.2.1, ak4.2.2.2] at HT4
  unfold RTk at HT4
  rw [jJ_val] at HT4
  go_wp2_with fail
  go_at_call 18
  refine HT4.mono ?_
  rintro e w5 ⟨A5, n5, c5, B5, m5, d5, rfl, hL5, hM5, hb5⟩
  have kq5 := heap_call hb5 k4
  have kg25 := heap_call hb5 kg2'
  have kg35 := heap_call hb5 kg3'
  have hb05 := below_call hb04 hb5
  have kc5 := Blk.cell kq5
  have kf5 := Blk.frozen kq5
  clear HT4 k4 kg2' kg3' hb04 hL4 hM4 hb5 kc4
  have hl45 := Blk.lt kq5
  have hl25 := Blk.lt kg25
  have hl35 := Blk.lt kg35
  have hn45 : g4 ≠ w5.heap.size := by omega
  have hn25 : g2 ≠ w5.heap.size := by omega
  have hn35 : g3 ≠ w5.heap.size := by omega
  go_wp2_with fail
  have hal : Below ((w5.setCell ⟨g4, 0, none⟩ (.slice A5 n5 c5)).setCell ⟨g4, 1, none⟩ (.slice B5 m5 d5)).heap.size ((w5.setCell ⟨g4, 0, none⟩ (.slice A5 n5 c5)).setCell ⟨g4, 1, none⟩ (.slice B5 m5 d5)) (((w5.setCell ⟨g4, 0, none⟩ (.slice A5 n5 c5)).setCell ⟨g4, 1, none⟩ (.slice B5 m5 d5)).alloc (.cells #[.int .i64 1, .string ⟨#[]⟩, .int .i64 0, .string ⟨#[65]⟩] 28)) := (Below.refl _ _).alloc (Nat.le_refl _) _
  have kt6 : (((w5.setCell ⟨g4, 0, none⟩ (.slice A5 n5 c5)).setCell ⟨g4, 1, none⟩ (.slice B5 m5 d5)).alloc (.cells #[.int .i64 1, .string ⟨#[]⟩, .int .i64 0, .string ⟨#[65]⟩] 28)).heap[w5.heap.size]? = some (.cells #[.int .i64 1, .string ⟨#[]⟩, .int .i64 0, .string ⟨#[65]⟩] 28 (0, 0)) := heap_new (by rw [size_set, size_set])
  have kq6 : (((w5.setCell ⟨g4, 0, none⟩ (.slice A5 n5 c5)).setCell ⟨g4, 1, none⟩ (.slice B5 m5 d5)).alloc (.cells #[.int .i64 1, .string ⟨#[]⟩, .int .i64 0, .string ⟨#[65]⟩] 28)).heap[g4]? = some (.cells #[.slice A5 n5 c5, .slice B5 m5 d5] 24 (0, 0)) := heap_old (heap_set_near _ _ _ _ _ _ (heap_set_near _ _ _ _ _ _ kq5))
  have kg26 : (((w5.setCell ⟨g4, 0, none⟩ (.slice A5 n5 c5)).setCell ⟨g4, 1, none⟩ (.slice B5 m5 d5)).alloc (.cells #[.int .i64 1, .string ⟨#[]⟩, .int .i64 0, .string ⟨#[65]⟩] 28)).heap[g2]? = _ := heap_old ((heap_set_far _ _ _ _ _ hne2.symm).trans ((heap_set_far _ _ _ _ _ hne2.symm).trans kg25))
  have kg36 : (((w5.setCell ⟨g4, 0, none⟩ (.slice A5 n5 c5)).setCell ⟨g4, 1, none⟩ (.slice B5 m5 d5)).alloc (.cells #[.int .i64 1, .string ⟨#[]⟩, .int .i64 0, .string ⟨#[65]⟩] 28)).heap[g3]? = _ := heap_old ((heap_set_far _ _ _ _ _ hne3.symm).trans ((heap_set_far _ _ _ _ _ hne3.symm).trans kg35))
  have hL6 : RdR RJ 4 (((w5.setCell ⟨g4, 0, none⟩ (.slice A5 n5 c5)).setCell ⟨g4, 1, none⟩ (.slice B5 m5 d5)).alloc (.cells #[.int .i64 1, .string ⟨#[]⟩, .int .i64 0, .string ⟨#[65]⟩] 28)) A5 n5 c5 [jR] := RdJ.below (RdJ.setQ (RdJ.setQ hL5 kq5 0 (.slice A5 n5 c5)) (heap_set_near _ _ _ _ _ _ kq5) 1 (.slice B5 m5 d5)) hal
  have hM6 : RdR RJ 4 (((w5.setCell ⟨g4, 0, none⟩ (.slice A5 n5 c5)).setCell ⟨g4, 1, none⟩ (.slice B5 m5 d5)).alloc (.cells #[.int .i64 1, .string ⟨#[]⟩, .int .i64 0, .string ⟨#[65]⟩] 28)) B5 m5 d5 [jJ] := RdJ.below (RdJ.setQ (RdJ.setQ hM5 kq5 0 (.slice A5 n5 c5)) (heap_set_near _ _ _ _ _ _ kq5) 1 (.slice B5 m5 d5)) hal
  have hb06 : Below w.heap.size w (((w5.setCell ⟨g4, 0, none⟩ (.slice A5 n5 c5)).setCell ⟨g4, 1, none⟩ (.slice B5 m5 d5)).alloc (.cells #[.int .i64 1, .string ⟨#[]⟩, .int .i64 0, .string ⟨#[65]⟩] 28)) := ((hb05.setCell hwg _).setCell hwg _).alloc (by rw [size_set, size_set]; exact hb05.size) _
  generalize (((w5.setCell ⟨g4, 0, none⟩ (.slice A5 n5 c5)).setCell ⟨g4, 1, none⟩ (.slice B5 m5 d5)).alloc (.cells #[.int .i64 1, .string ⟨#[]⟩, .int .i64 0, .string ⟨#[65]⟩] 28)) = w6 at kt6 kq6 kg26 kg36 hL6 hM6 hb06 ⊢
  generalize w5.heap.size = g5 at *
  clear hal kq5 kg25 kg35 hb05 hL5 hM5 kc5 kf5
  have HT6 := take_any A5 n5 c5 [jR] B5 m5 d5 [jJ] x w6 hL6 hM6 (HX.out w6 hb06) (by rw [hL6.len]; decide) (by rw [hM6.len]; decide)
  rw [ak5] at HT6
  unfold RTk at HT6
  generalize tkJ [jR] [jJ] = jx at HT6
  obtain ⟨sx, ux, px, nx⟩ := jx
  unfold Jb.val at HT6
  refine HT6.mono ?_
  rintro e w7 ⟨A7, n7, c7, B7, m7, d7, rfl, -, -, hb7⟩
  have kt7 := heap_call hb7 kt6
  have kq7 := heap_call hb7 kq6
  have kg27 := heap_call hb7 kg26
  have kg37 := heap_call hb7 kg36
  have hL7 := RdJ.below hL6 hb7
  have hM7 := RdJ.below hM6 hb7
  have hb07 := below_call hb06 hb7
  clear HT6 kt6 kq6 kg26 kg36 hL6 hM6 hb06 hb7
  have kc7 := Blk.cell kq7
  have kc7g := Blk.cell kg37
  have hl47 := Blk.lt kq7
  have hl37 := Blk.lt kg37
  have hn47 : g4 ≠ w7.heap.size := by omega
  have hn37 : g3 ≠ w7.heap.size := by omega
  have hn47b : g4 ≠ w7.heap.size + 1 := by omega
  have hn37b : g3 ≠ w7.heap.size + 1 := by omega
  go_wp2_with fail
  have hal : Below w7.heap.size w7 ((w7.alloc (.cells #[.slice A7 n7 c7, .slice B7 m7 d7] 24)).alloc (.cells #[.int .i64 sx, .string ux, .int .i64 px, .string nx] 28)) := ((Below.refl _ _).alloc (Nat.le_refl _) _).alloc (by rw [size_alloc_]; omega) _
  have kt8 := heap_call hal kt7
  have kq8 := heap_call hal kq7
  have kg28 := heap_call hal kg27
  have kg38 := heap_call hal kg37
  have hL8 := RdJ.below hL7 hal
  have hM8 := RdJ.below hM7 hal
  have hb08 := below_call hb07 hal
  generalize ((w7.alloc (.cells #[.slice A7 n7 c7, .slice B7 m7 d7] 24)).alloc (.cells #[.int .i64 sx, .string ux, .int .i64 px, .string nx] 28)) = w8 at kt8 kq8 kg28 kg38 hL8 hM8 hb08 ⊢
  clear hal kt7 kq7 kg27 kg37 hL7 hM7 hb07 kc7 kc7g hl47 hl37 hn47 hn37 hn47b hn37b
  have HD8 := done_any A5 n5 c5 [jR] B5 m5 d5 [jJ] jJ w8 hL8 hM8 (by rw [hL8.len]; decide) (by rw [hM8.len]; decide)
  rw [ak6, jJ_val] at HD8
  refine HD8.mono ?_
  rintro e w9 ⟨A9, n9, c9, B9, m9, d9, rfl, hL9, hM9, hb9⟩
  have kt9 := heap_call hb9 kt8
  have kq9 := heap_call hb9 kq8
  have kg29 := heap_call hb9 kg28
  have kg39 := heap_call hb9 kg38
  have hb09 := below_call hb08 hb9
  clear HD8 kt8 kq8 kg28 kg38 hL8 hM8 hb08 hb9
  go_wp2_with fail
  have HT9 := take_any A9 n9 c9 [jR] B9 m9 d9 [] x w9 hL9 hM9 (HX.out w9 hb09) (by rw [hL9.len]; decide) (by rw [hM9.len]; decide)
  rw [ak7.1, ak7.2.1, ak7.2.2.1, ak7.2.2.2] at HT9
  unfold RTk at HT9
  rw [jR_val] at HT9
  refine HT9.mono ?_
  rintro e w10 ⟨A10, n10, c10, B10, m10, d10, rfl, hL10, hM10, hb10⟩
  have kt10 := heap_call hb10 kt9
  have kq10 := heap_call hb10 kq9
  have kg210 := heap_call hb10 kg29
  have kg310 := heap_call hb10 kg39
  have hb010 := below_call hb09 hb10
  clear HT9 kt9 kq9 kg29 kg39 hL9 hM9 hb09 hb10
  have kc10 := Blk.cell kq10
  have kf10 := Blk.frozen kq10
  have kct := Blk.cell kt10
  have kc2 := Blk.cell kg210
  have kc3 := Blk.cell kg310
  have hl1 := Blk.lt kq10
  have hl2 := Blk.lt kg210
  have hl3 := Blk.lt kg310
  have hl5 := Blk.lt kt10
  have p1 : g4 ≠ w10.heap.size := by omega
  have p2 : g2 ≠ w10.heap.size := by omega
  have p3 : g3 ≠ w10.heap.size := by omega
  have p5 : g5 ≠ w10.heap.size := by omega
  have hq1 := fun W => run_eq_job 1 ⟨#[]⟩ 0 ⟨#[65]⟩ 1 ⟨#[]⟩ 0 ⟨#[65]⟩ W
  have hq2 := fun W => run_eq_job 2 ⟨#[97, 110, 110]⟩ 0 ⟨#[65]⟩ 2 ⟨#[97, 110, 110]⟩ 0 ⟨#[65]⟩ W
  rw [decide_eq_true rfl] at hq1 hq2
  have hgt := job_guard
  go_wp2_with fail
  have hal : Below ((w10.setCell ⟨g4, 0, none⟩ (.slice A10 n10 c10)).setCell ⟨g4, 1, none⟩ (.slice B10 m10 d10)).heap.size ((w10.setCell ⟨g4, 0, none⟩ (.slice A10 n10 c10)).setCell ⟨g4, 1, none⟩ (.slice B10 m10 d10)) (((w10.setCell ⟨g4, 0, none⟩ (.slice A10 n10 c10)).setCell ⟨g4, 1, none⟩ (.slice B10 m10 d10)).alloc (.cells #[.int .i64 2, .string ⟨#[97, 110, 110]⟩, .int .i64 0, .string ⟨#[65]⟩] 28)) := (Below.refl _ _).alloc (Nat.le_refl _) _
  have kq11 : (((w10.setCell ⟨g4, 0, none⟩ (.slice A10 n10 c10)).setCell ⟨g4, 1, none⟩ (.slice B10 m10 d10)).alloc (.cells #[.int .i64 2, .string ⟨#[97, 110, 110]⟩, .int .i64 0, .string ⟨#[65]⟩] 28)).heap[g4]? = some (.cells #[.slice A10 n10 c10, .slice B10 m10 d10] 24 (0, 0)) := heap_old (heap_set_near _ _ _ _ _ _ (heap_set_near _ _ _ _ _ _ kq10))
  have kg211 : (((w10.setCell ⟨g4, 0, none⟩ (.slice A10 n10 c10)).setCell ⟨g4, 1, none⟩ (.slice B10 m10 d10)).alloc (.cells #[.int .i64 2, .string ⟨#[97, 110, 110]⟩, .int .i64 0, .string ⟨#[65]⟩] 28)).heap[g2]? = _ := heap_old ((heap_set_far _ _ _ _ _ hne2.symm).trans ((heap_set_far _ _ _ _ _ hne2.symm).trans kg210))
  have hL11 : RdR RJ 4 (((w10.setCell ⟨g4, 0, none⟩ (.slice A10 n10 c10)).setCell ⟨g4, 1, none⟩ (.slice B10 m10 d10)).alloc (.cells #[.int .i64 2, .string ⟨#[97, 110, 110]⟩, .int .i64 0, .string ⟨#[65]⟩] 28)) A10 n10 c10 [] := RdJ.below (RdJ.setQ (RdJ.setQ hL10 kq10 0 (.slice A10 n10 c10)) (heap_set_near _ _ _ _ _ _ kq10) 1 (.slice B10 m10 d10)) hal
  have hM11 : RdR RJ 4 (((w10.setCell ⟨g4, 0, none⟩ (.slice A10 n10 c10)).setCell ⟨g4, 1, none⟩ (.slice B10 m10 d10)).alloc (.cells #[.int .i64 2, .string ⟨#[97, 110, 110]⟩, .int .i64 0, .string ⟨#[65]⟩] 28)) B10 m10 d10 [jR] := RdJ.below (RdJ.setQ (RdJ.setQ hM10 kq10 0 (.slice A10 n10 c10)) (heap_set_near _ _ _ _ _ _ kq10) 1 (.slice B10 m10 d10)) hal
  have hb011 : Below w.heap.size w (((w10.setCell ⟨g4, 0, none⟩ (.slice A10 n10 c10)).setCell ⟨g4, 1, none⟩ (.slice B10 m10 d10)).alloc (.cells #[.int .i64 2, .string ⟨#[97, 110, 110]⟩, .int .i64 0, .string ⟨#[65]⟩] 28)) := ((hb010.setCell hwg _).setCell hwg _).alloc (by rw [size_set, size_set]; exact hb010.size) _
  generalize (((w10.setCell ⟨g4, 0, none⟩ (.slice A10 n10 c10)).setCell ⟨g4, 1, none⟩ (.slice B10 m10 d10)).alloc (.cells #[.int .i64 2, .string ⟨#[97, 110, 110]⟩, .int .i64 0, .string ⟨#[65]⟩] 28)) = w11 at kq11 kg211 hL11 hM11 hb011 ⊢
  clear hal kq10 kg210 kg310 kt10 hL10 hM10 hb010 kc10 kf10 kct kc2 kc3 hl1 hl2 hl3 hl5 hq1 hq2 hgt
  generalize w10.heap.size = g10 at *
  have HV := valid_any A10 n10 c10 [] B10 m10 d10 [jR] x w11 hL11 hM11 (HX.out w11 hb011) (by simp)
  rw [ak8] at HV
  refine HV.mono ?_
  rintro e w12 ⟨rfl, hb12⟩
  have kq12 := heap_call hb12 kq11
  have kg212 := heap_call hb12 kg211
  have hL12 := RdJ.below hL11 hb12
  have hM12 := RdJ.below hM11 hb12
  have hb012 := below_call hb011 hb12
  have kc12 := Blk.cell kq12
  have kc122 := Blk.cell kg212
  clear HV kq11 kg211 hL11 hM11 hb011 hb12
  go_wp2_with fail
  have HD := done_any A10 n10 c10 [] B10 m10 d10 [jR] jR w12 hL12 hM12 (by rw [hL12.len]; decide) (by rw [hM12.len]; decide)
  rw [ak9, jR_val] at HD
  refine HD.mono ?_
  rintro e w13 ⟨A13, n13, c13, B13, m13, d13, rfl, hL13, hM13, hb13⟩
  have e1 : n13 = 0 := hL13.len
  have e2 : m13 = 0 := hM13.len
  subst e1 e2
  have kq13 := heap_call hb13 kq12
  have kg213 := heap_call hb13 kg212
  have hL13' := RdJ.below hL12 hb13
  have hM13' := RdJ.below hM12 hb13
  have hb013 := below_call hb012 hb13
  clear HD kq12 kg212 hL12 hM12 hb012 hb13 kc12 kc122 hL13 hM13
  go_wp2_with fail
  refine (empty_any A13 B13 0 c13 0 d13 w13).mono ?_
  rintro e w14 ⟨rfl, hb14⟩
  have kq14 := heap_call hb14 kq13
  have kg214 := heap_call hb14 kg213
  have hL14 := RdJ.below hL13' hb14
  have hM14 := RdJ.below hM13' hb14
  have hb014 := below_call hb013 hb14
  have kc14 := Blk.cell kq14
  have kc142 := Blk.cell kg214
  clear kq13 kg213 hL13' hM13' hb013 hb14
  go_wp2_with fail
  have HB := back_any A10 n10 c10 [] B10 m10 d10 [jR] jR w14 hL14 hM14 (by rw [hL14.len]; decide) (by rw [hM14.len]; decide)
  rw [ak1, ak9, jR_val] at HB
  refine HB.mono ?_
  rintro e w15 ⟨A15, n15, c15, B15, m15, d15, rfl, hL15, hM15, hb15⟩
  have e1 : n15 = 1 := hL15.len
  have e2 : m15 = 0 := hM15.len
  subst e1 e2
  have hb015 := below_call hb014 hb15
  clear HB kq14 kg214 hL14 hM14 hb014 hb15 kc14 kc142 hL15 hM15
  go_wp2_with fail
  refine (empty_any A15 B15 1 c15 0 d15 w15).mono ?_
  rintro e w16 ⟨rfl, hb16⟩
  have hb016 := below_call hb015 hb16
  go_wp2_with fail
  go_ret
  exact ⟨rfl, hb016⟩
end Go.Proofs.YtobgnncdldfkkaaDoor
