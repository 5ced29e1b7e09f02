/- The walks of SameQueue, few, Titles, Users. -/
import Derived.Test.YtobgnncdldfkkaaDoorQD
import Derived.Test.YtobgnncdldfkkaaDoorQF
import Derived.Test.YtobgnncdldfkkaaDoorSrc
namespace Go.Proofs.YtobgnncdldfkkaaDoor
open Go.RowKit
set_option linter.unusedSimpArgs false
set_option linter.unusedVariables false

set_option maxRecDepth 100000 in
set_option maxHeartbeats 4000000 in
theorem sameq_any (A : Option Addr) (n c : Nat) (L : List Jb) (B : Option Addr) (m d : Nat) (M : List Jb) (A2 : Option Addr) (n2 c2 : Nat) (L2 : List Jb) (B2 : Option Addr) (m2 d2 : Nat) (M2 : List Jb) (w : World) (h : RdR RJ 4 w A n c L) (h2 : RdR RJ 4 w B m d M) (h3 : RdR RJ 4 w A2 n2 c2 L2) (h4 : RdR RJ 4 w B2 m2 d2 M2) :
    Calls Tryd.prog 23 #[.agg #[.slice A n c, .slice B m d], .agg #[.slice A2 n2 c2, .slice B2 m2 d2]] w fun e w' => e = .returned (.bool (decide (L = L2) && decide (M = M2))) ∧ Below w.heap.size w w' := by
  have HS1 : Hid (∀ W, Below w.heap.size w W → Calls Tryd.prog 24 #[.slice A n c, .slice A2 n2 c2] W fun e w' => e = .returned (.bool (decide (L = L2))) ∧ Below W.heap.size W w') := Lib.hid fun W hW => same_job A n c L A2 n2 c2 L2 W (RdJ.below h hW) (RdJ.below h3 hW)
  have HS2 : Hid (∀ W, Below w.heap.size w W → Calls Tryd.prog 24 #[.slice B m d, .slice B2 m2 d2] W fun e w' => e = .returned (.bool (decide (M = M2))) ∧ Below W.heap.size W w') := Lib.hid fun W hW => same_job B m d M B2 m2 d2 M2 W (RdJ.below h2 hW) (RdJ.below h4 hW)
  generalize decide (L = L2) = r1 at *
  generalize decide (M = M2) = r2 at *
  clear h h2 h3 h4
  cases r1 with
  | true =>
    go_enter Tryd.func23, Tryd.ntmps23
    go_wp2_with fail
    go_at_call 24
    refine (HS1.out _ (by (refine bel_out ?_; (focus (repeat' first | (with_reducible refine bel_refl ?_) | with_reducible assumption | with_reducible refine bel_drew ?_ | with_reducible refine bel_drewN _ ?_ | with_reducible refine bel_alloc _ ?_ | with_reducible refine bel_set ?_ _ ?_ | (with_reducible apply bel_call; with_reducible assumption) | (with_reducible apply bel_owg; with_reducible assumption; (focus omega)) | with_reducible exact Nat.le_refl _ | omega | (simp; done) | (simp; omega)))))).mono ?_
    rintro e w1 ⟨rfl, hb1⟩
    obtain ⟨kc1, kf1, kz1, kh1⟩ := blk_cells hb1 (g := w.heap.size) (t := 24) (cs := #[.slice A n c, .slice B m d]) (by (focus (repeat' first | with_reducible assumption | (with_reducible refine heap_drew ?_) | (with_reducible refine heap_drewN ?_) | (with_reducible refine heap_new ?_; focus (first | rfl | omega | (simp; done))) | (with_reducible refine heap_old ?_) | (with_reducible apply heap_near') | ((with_reducible show Array.setIfInBounds _ _ _ = _); rfl) | (with_reducible refine heap_far ?_ ?_; focus (first | omega | (simp; omega) | (simp; done))) | (with_reducible apply heap_grown; with_reducible assumption; (focus (first | omega | (simp; omega)))) | (with_reducible apply heap_call; with_reducible assumption))))
    obtain ⟨kc1b, kf1b, kz1b, kh1b⟩ := blk_cells hb1 (g := w.heap.size + 1) (t := 24) (cs := #[.slice A2 n2 c2, .slice B2 m2 d2]) (by (focus (repeat' first | with_reducible assumption | (with_reducible refine heap_drew ?_) | (with_reducible refine heap_drewN ?_) | (with_reducible refine heap_new ?_; focus (first | rfl | omega | (simp; done))) | (with_reducible refine heap_old ?_) | (with_reducible apply heap_near') | ((with_reducible show Array.setIfInBounds _ _ _ = _); rfl) | (with_reducible refine heap_far ?_ ?_; focus (first | omega | (simp; omega) | (simp; done))) | (with_reducible apply heap_grown; with_reducible assumption; (focus (first | omega | (simp; omega)))) | (with_reducible apply heap_call; with_reducible assumption))))
    go_wp2_with (go_at_call 24; go_must (refine (HS2.out _ ?_).mono ?_; (focus (refine bel_out ?_; (focus (repeat' first | (with_reducible refine bel_refl ?_) | with_reducible assumption | with_reducible refine bel_drew ?_ | with_reducible refine bel_drewN _ ?_ | with_reducible refine bel_alloc _ ?_ | with_reducible refine bel_set ?_ _ ?_ | (with_reducible apply bel_call; with_reducible assumption) | (with_reducible apply bel_owg; with_reducible assumption; (focus omega)) | with_reducible exact Nat.le_refl _ | omega | (simp; done) | (simp; omega))))); rintro e w2 ⟨rfl, hb2⟩))
    go_ret
    exact ⟨by cases r2 <;> rfl, by (refine bel_out ?_; (focus (repeat' first | (with_reducible refine bel_refl ?_) | with_reducible assumption | with_reducible refine bel_drew ?_ | with_reducible refine bel_drewN _ ?_ | with_reducible refine bel_alloc _ ?_ | with_reducible refine bel_set ?_ _ ?_ | (with_reducible apply bel_call; with_reducible assumption) | (with_reducible apply bel_owg; with_reducible assumption; (focus omega)) | with_reducible exact Nat.le_refl _ | omega | (simp; done) | (simp; omega))))⟩
  | false =>
    go_enter Tryd.func23, Tryd.ntmps23
    go_wp2_with fail
    go_at_call 24
    refine (HS1.out _ (by (refine bel_out ?_; (focus (repeat' first | (with_reducible refine bel_refl ?_) | with_reducible assumption | with_reducible refine bel_drew ?_ | with_reducible refine bel_drewN _ ?_ | with_reducible refine bel_alloc _ ?_ | with_reducible refine bel_set ?_ _ ?_ | (with_reducible apply bel_call; with_reducible assumption) | (with_reducible apply bel_owg; with_reducible assumption; (focus omega)) | with_reducible exact Nat.le_refl _ | omega | (simp; done) | (simp; omega)))))).mono ?_
    rintro e w1 ⟨rfl, hb1⟩
    go_wp2_with fail
    go_ret
    exact ⟨by rfl, by (refine bel_out ?_; (focus (repeat' first | (with_reducible refine bel_refl ?_) | with_reducible assumption | with_reducible refine bel_drew ?_ | with_reducible refine bel_drewN _ ?_ | with_reducible refine bel_alloc _ ?_ | with_reducible refine bel_set ?_ _ ?_ | (with_reducible apply bel_call; with_reducible assumption) | (with_reducible apply bel_owg; with_reducible assumption; (focus omega)) | with_reducible exact Nat.le_refl _ | omega | (simp; done) | (simp; omega))))⟩

theorem few_any (A B : Option Addr) (n c m d : Nat) (w : World) : Calls Tryd.prog 10 #[.agg #[.slice A n c, .slice B m d]] w fun e w' => e = .returned (.bool (decide (n ≤ 20) && decide (m ≤ 20))) ∧ Below w.heap.size w w' := by
  have e1 : decide ((n : Int) ≤ 20) = decide (n ≤ 20) := decide_eq_decide.2 (by omega)
  have e2 : decide ((m : Int) ≤ 20) = decide (m ≤ 20) := decide_eq_decide.2 (by omega)
  generalize decide (n ≤ 20) = x at *
  generalize decide (m ≤ 20) = y at *
  cases x <;> cases y <;>
  (go_enter Tryd.func10, Tryd.ntmps10
   go_wp2
   go_ret
   exact ⟨by rfl, by (refine bel_out ?_; (focus (repeat' first | (with_reducible refine bel_refl ?_) | with_reducible assumption | with_reducible refine bel_drew ?_ | with_reducible refine bel_drewN _ ?_ | with_reducible refine bel_alloc _ ?_ | with_reducible refine bel_set ?_ _ ?_ | (with_reducible apply bel_call; with_reducible assumption) | (with_reducible apply bel_owg; with_reducible assumption; (focus omega)) | with_reducible exact Nat.le_refl _ | omega | (simp; done) | (simp; omega))))⟩)

def tcells : Array Value := #[.int .i64 0, .string ⟨#[65]⟩, .int .i64 0, .string ⟨#[66]⟩, .int .i64 0, .string ⟨#[65, 47, 67]⟩, .int .i64 3, .string ⟨#[84]⟩, .int .i64 4, .string ⟨#[88]⟩, .int .i64 4, .string ⟨#[89]⟩, .int .i64 2, .string ⟨#[65, 110, 110]⟩, .int .i64 0, .string ⟨#[68]⟩]
def ucells : Array Value := #[.string ⟨#[]⟩, .string ⟨#[97, 110, 110]⟩, .string ⟨#[98, 111, 98]⟩, .string ⟨#[99, 121]⟩]
def tS (k : Nat) : Int := ([0, 0, 0, 3, 4, 4, 2, 0] : List Int).getD k 0
def tN (k : Nat) : ByteArray := ([⟨#[65]⟩, ⟨#[66]⟩, ⟨#[65, 47, 67]⟩, ⟨#[84]⟩, ⟨#[88]⟩, ⟨#[89]⟩, ⟨#[65, 110, 110]⟩, ⟨#[68]⟩] : List ByteArray).getD k ⟨#[]⟩
def uN (k : Nat) : ByteArray := ([⟨#[]⟩, ⟨#[97, 110, 110]⟩, ⟨#[98, 111, 98]⟩, ⟨#[99, 121]⟩] : List ByteArray).getD k ⟨#[]⟩
def TitB (w : World) (g : Nat) : Prop := w.heap[g]? = some (.cells tcells 26 (0, 0))
def UseB (w : World) (g : Nat) : Prop := w.heap[g]? = some (.cells ucells 9 (0, 0))
theorem TitB.at {w : World} {g : Nat} (h : TitB w g) {k : Nat} (hk : k < 8) : w.cell? ⟨g, k * 2, none⟩ = some (.int .i64 (tS k)) ∧ w.cell? ⟨g, k * 2 + 1, none⟩ = some (.string (tN k)) := by
  rw [Blk.cell h, Blk.cell h]
  rcases k with _ | _ | _ | _ | _ | _ | _ | _ | k <;> first | exact ⟨rfl, rfl⟩ | omega
theorem UseB.at {w : World} {g : Nat} (h : UseB w g) {k : Nat} (hk : k < 4) : w.cell? ⟨g, k, none⟩ = some (.string (uN k)) := by
  rw [Blk.cell h]
  rcases k with _ | _ | _ | _ | k <;> first | rfl | omega
set_option maxRecDepth 100000 in
set_option maxHeartbeats 4000000 in
theorem titles_any (w : World) : Calls Tryd.prog 33 #[] w fun e w' => ∃ g, e = .returned (.slice (some ⟨g, 0, none⟩) 8 8) ∧ w.heap.size ≤ g ∧ TitB w' g ∧ Below w.heap.size w w' := by
  go_enter Tryd.func33, Tryd.ntmps33
  go_wp2_with fail
  go_ret
  exact ⟨w.heap.size, rfl, Nat.le_refl _, heap_new rfl, (Below.refl _ _).alloc (Nat.le_refl _) _⟩
set_option maxRecDepth 100000 in
theorem users_any (w : World) : Calls Tryd.prog 34 #[] w fun e w' => ∃ g, e = .returned (.slice (some ⟨g, 0, none⟩) 4 4) ∧ w.heap.size ≤ g ∧ UseB w' g ∧ Below w.heap.size w w' := by
  go_enter Tryd.func34, Tryd.ntmps34
  go_wp2_with fail
  go_ret
  exact ⟨w.heap.size, rfl, Nat.le_refl _, heap_new rfl, (Below.refl _ _).alloc (Nat.le_refl _) _⟩
end Go.Proofs.YtobgnncdldfkkaaDoor
