/- The walks of the source of numbers: From, Next. -/
import Derived.Test.YtobgnncdldfkkaaDoorGen2
import Derived.Test.YtobgnncdldfkkaaDoorWords2
import Derived.RegionTactic
import Derived.StillTailTactics
import Derived.ChangeAlike
namespace Go.Proofs.YtobgnncdldfkkaaDoor
open Go.RowKit
set_option linter.unusedSimpArgs false
set_option linter.unusedVariables false

/-- the slice (A, n, c) reads as the numbers zs -/
structure RdN (w : World) (A : Option Addr) (n c : Nat) (zs : List Int) : Prop where
  len : n = zs.length
  cap : n ≤ c
  max : c ≤ maxLen
  reads : Reads w w.heap.size 1 A n (zs.map (.int .i64 ·))
theorem RdN.opened {w : World} {A : Option Addr} {n c : Nat} {zs : List Int} (h : RdN w A n c zs) (hn : 0 < n) :
    ∃ b off, A = some ⟨b, off, none⟩ ∧ b < w.heap.size ∧ ∀ j, j < n → w.cell? ⟨b, off + j, none⟩ = some (.int .i64 (zs.getD j 0)) := by
  obtain ⟨⟨b, off, sp⟩, e, hb, hc⟩ := h.reads.2 hn
  have hl := h.len
  have hcell : ∀ j, j < n → w.cell? ((⟨b, off, sp⟩ : Addr).add j) = some (.int .i64 (zs.getD j 0)) := fun j hj => by
    apply hc
    have hj2 : j < zs.length := by omega
    simp [List.getElem?_map, List.getElem?_eq_getElem hj2]
  have hsp : sp = none := by simpa [Addr.add] using World.cell?_spot (hcell 0 hn)
  subst hsp
  refine ⟨b, off, e, hb, fun j hj => ?_⟩
  have := hcell j hj
  unfold Addr.add at this
  by_cases h0 : j = 0
  · subst h0; simpa using this
  · simpa [h0] using this

/-- block g is a source over the slice (A, n, c) -/
def SrcAt (w : World) (g : Nat) (A : Option Addr) (n c : Nat) : Prop :=
  ∃ (k : Nat) (seed : Int), k ≤ n ∧ w.heap[g]? = some (.cells #[.slice A n c, .int .i64 k, .int .u64 seed] 56 (0, 0))

def RFrom (w : World) (A : Option Addr) (n c : Nat) : Ending → World → Prop := Ret w fun v w' => ∃ g, v = .pointer (some ⟨g, 0, none⟩) ∧ w.heap.size ≤ g ∧ SrcAt w' g A n c

set_option maxRecDepth 100000 in
set_option maxHeartbeats 1600000 in
theorem from_any (A : Option Addr) (n c : Nat) (zs : List Int) (w : World) (hr : RdN w A n c zs) :
    Calls Tryd.prog 14 #[.slice A n c] w (RFrom w A n c) := by
  have hmax : n ≤ maxLen := Nat.le_trans hr.cap hr.max
  unfold maxLen at hmax
  go_enter Tryd.func14, Tryd.ntmps14
  go_wp2
  go_loopw [4] (fun i wr => ∃ (k : Nat) (seed : Int), k ≤ n ∧ i = .int .i64 k ∧ wr.heap[w.heap.size]? = some (.cells #[.slice A n c, .int .i64 0, .int .u64 seed] 56 (0, 0)) ∧ Below w.heap.size w wr) (fun i _ => n - (intOf i).toNat)
  case atStart => exact ⟨0, _, Nat.zero_le _, rfl, heap_new rfl, (Below.refl _ _).alloc (Nat.le_refl _) _⟩
  case round =>
    obtain ⟨k, seed, hk, rfl, hh, hbw⟩ := hrel
    by_cases hlt : k < n
    · by_cases h64 : k < 64
      · have hd1 : decide (k < n) = true := by simpa using hlt
        have hd2 : decide ((k : Int) < 64) = true := by simp; omega
        obtain ⟨b, off, rfl, hb, hc⟩ := hr.opened (by omega)
        have hcell := (hbw.cell (p := ⟨b, off + k, none⟩) hb).trans (hc k hlt)
        have hne : b ≠ w.heap.size := by omega
        clear hc
        have kc0 := Blk.cell hh 0
        have kc1 := Blk.cell hh 1
        have kc2 := Blk.cell hh 2
        have kf := Blk.frozen hh
        go_wp2_with fail
        go_still_tail 14, (by kernel_rfl)
        go_wp2_with fail
        obtain ⟨s1, hs1⟩ : ∃ s1 : Int, IntKind.u64.wrap (bits BinOp.xor IntKind.u64 seed (IntKind.u64.wrap (zs[k]?.getD 0)) * 18397679294719823053) = s1 := ⟨_, rfl⟩
        simp only [hs1]
        clear hs1
        have hh2 : (wr.setCell ⟨w.heap.size, 2, none⟩ (.int .u64 s1)).drew.heap[w.heap.size]? = some (.cells #[.slice (some ⟨b, off, none⟩) n c, .int .i64 0, .int .u64 s1] 56 (0, 0)) := by (focus (repeat' first | with_reducible assumption | (with_reducible refine heap_drew ?_) | (with_reducible refine heap_drewN ?_) | (with_reducible refine heap_new ?_; focus (first | rfl | omega | (simp; done))) | (with_reducible refine heap_old ?_) | (with_reducible apply heap_near') | ((with_reducible show Array.setIfInBounds _ _ _ = _); rfl) | (with_reducible refine heap_far ?_ ?_; focus (first | omega | (simp; omega) | (simp; done))) | (with_reducible apply heap_grown; with_reducible assumption; (focus (first | omega | (simp; omega)))) | (with_reducible apply heap_call; with_reducible assumption)))
        have hb2 : Below w.heap.size w (wr.setCell ⟨w.heap.size, 2, none⟩ (.int .u64 s1)).drew := by (refine bel_out ?_; (focus (repeat' first | (with_reducible refine bel_refl ?_) | with_reducible assumption | with_reducible refine bel_drew ?_ | with_reducible refine bel_drewN _ ?_ | with_reducible refine bel_alloc _ ?_ | with_reducible refine bel_set ?_ _ ?_ | (with_reducible apply bel_call; with_reducible assumption) | (with_reducible apply bel_owg; with_reducible assumption; (focus omega)) | with_reducible exact Nat.le_refl _ | omega | (simp; done) | (simp; omega))))
        clear hcell kc0 kc1 kc2 kf hh hbw
        generalize (wr.setCell ⟨w.heap.size, 2, none⟩ (.int .u64 s1)).drew = w2 at hh2 hb2 ⊢
        have kc2 := Blk.cell hh2 2
        have kf := Blk.frozen hh2
        go_still_tail 13, (by kernel_rfl)
        go_wp2_with fail
        go_wp2
        go_roundw
        case rel => exact ⟨k + 1, _, by omega, by go_num, (by (focus (repeat' first | with_reducible assumption | (with_reducible refine heap_drew ?_) | (with_reducible refine heap_drewN ?_) | (with_reducible refine heap_new ?_; focus (first | rfl | omega | (simp; done))) | (with_reducible refine heap_old ?_) | (with_reducible apply heap_near') | ((with_reducible show Array.setIfInBounds _ _ _ = _); rfl) | (with_reducible refine heap_far ?_ ?_; focus (first | omega | (simp; omega) | (simp; done))) | (with_reducible apply heap_grown; with_reducible assumption; (focus (first | omega | (simp; omega)))) | (with_reducible apply heap_call; with_reducible assumption)))), (by (refine bel_out ?_; (focus (repeat' first | (with_reducible refine bel_refl ?_) | with_reducible assumption | with_reducible refine bel_drew ?_ | with_reducible refine bel_drewN _ ?_ | with_reducible refine bel_alloc _ ?_ | with_reducible refine bel_set ?_ _ ?_ | (with_reducible apply bel_call; with_reducible assumption) | (with_reducible apply bel_owg; with_reducible assumption; (focus omega)) | with_reducible exact Nat.le_refl _ | omega | (simp; done) | (simp; omega)))))⟩
        case measure => simp [intOf]; omega
      · have hd1 : decide (k < n) = true := by simpa using hlt
        have hd2 : decide ((k : Int) < 64) = false := by simp; omega
        go_wp2
        go_ret
        exact ⟨_, rfl, ⟨_, rfl, Nat.le_refl _, 0, seed, Nat.zero_le _, hh⟩, hbw⟩
    · have hd1 : decide (k < n) = false := by simpa using hlt
      go_wp2
      go_ret
      exact ⟨_, rfl, ⟨_, rfl, Nat.le_refl _, 0, seed, Nat.zero_le _, hh⟩, hbw⟩


theorem grown_set {w : World} {p : Addr} (u : Value) : w.grownBy (w.setCell p u) (some p.block) :=
  ⟨rfl, rfl, rfl, by simp [World.setCell], fun k _ hne => Below.heap_setCell w p u k (fun e => hne (by rw [e]))⟩
theorem grown_drewN {a w : World} {row : Option Nat} (h : a.grownBy w row) (n : Nat) : a.grownBy (w.drewN n) row := ⟨h.os, h.tape, h.output, h.size, h.block⟩
theorem grown_of_drewN {w w' : World} {row : Option Nat} (n : Nat) (h : (w.drewN n).grownBy w' row) : w.grownBy w' row := ⟨h.os, h.tape, h.output, h.size, h.block⟩
theorem heap_grown {w w' : World} {x : Obj} {g g' : Nat} (hg : w.grownBy w' (some g')) (hne : g ≠ g') (h : w.heap[g]? = some x) : w'.heap[g]? = some x := by
  have hlt : g < w.heap.size := by
    rcases Nat.lt_or_ge g w.heap.size with h1 | h1
    · exact h1
    · rw [Array.getElem?_eq_none h1] at h; cases h
  exact (hg.block g hlt (by simpa using hne)).trans h

theorem next_range (x m : Int) (hm : 0 < m) (hm2 : m ≤ 4611686018427387904) : 0 ≤ wrap64 ((IntKind.u64.wrap x / 8589934592).tmod m) ∧ wrap64 ((IntKind.u64.wrap x / 8589934592).tmod m) < m := by
  have h0 : 0 ≤ IntKind.u64.wrap x := by rw [IntKind.wrap_u64]; exact Int.emod_nonneg _ (by decide)
  have h1 : 0 ≤ IntKind.u64.wrap x / 8589934592 := Int.ediv_nonneg h0 (by decide)
  rw [Int.tmod_eq_emod_of_nonneg h1]
  have h2 := Int.emod_nonneg (IntKind.u64.wrap x / 8589934592) (by omega : m ≠ 0)
  have h3 := Int.emod_lt_of_pos (IntKind.u64.wrap x / 8589934592) hm
  generalize (IntKind.u64.wrap x / 8589934592) % m = v at h2 h3
  have e : wrap64 v = v := by unfold wrap64; omega
  rw [e]
  exact ⟨h2, h3⟩

/-- a number from 0 to m - 1; only block g has changed -/
def RNext (w : World) (g : Nat) (A : Option Addr) (n c : Nat) (m : Int) (e : Ending) (w' : World) : Prop := ∃ k : Int, e = .returned (.int .i64 k) ∧ 0 ≤ k ∧ k < m ∧ SrcAt w' g A n c ∧ w.grownBy w' (some g)

set_option maxRecDepth 100000 in
set_option maxHeartbeats 1600000 in
theorem next_any (w0 : World) (g : Nat) (A : Option Addr) (n c : Nat) (zs : List Int) (m : Int) (w : World) (hr : RdN w0 A n c zs) (hb0 : Below w0.heap.size w0 w) (hg : w0.heap.size ≤ g) (hs : SrcAt w g A n c) (hm : 0 < m) (hm2 : m ≤ 4611686018427387904) :
    Calls Tryd.prog 26 #[.pointer (some ⟨g, 0, none⟩), .int .i64 m] w (RNext w g A n c m) := by
  have hmax : n ≤ maxLen := Nat.le_trans hr.cap hr.max
  unfold maxLen at hmax
  obtain ⟨k, seed, hk, hh⟩ := hs
  have kc0 := Blk.cell hh 0
  have kc1 := Blk.cell hh 1
  have kc2 := Blk.cell hh 2
  have kf := Blk.frozen hh
  by_cases hlt : k < n
  · obtain ⟨b, off, rfl, hb, hc⟩ := hr.opened (by omega)
    have hcell := (hb0.cell (p := ⟨b, off + k, none⟩) hb).trans (hc k hlt)
    have hne : b ≠ g := by omega
    have hro : ∀ W : World, Calls Tryd.prog 16 #[.int .i64 (zs.getD k 0), .int .i64 m] W fun e w' => e = .returned (.int .i64 (zs.getD k 0 % m)) ∧ w' = W := fun W => round_any _ m W hm hm2
    have HR := Lib.hid hro
    clear hro hc
    go_enter Tryd.func26, Tryd.ntmps26
    go_wp2_with fail
    go_quiet (fail)
    go_wp2_with fail
    have hh2 : ((w.drewN nq).setCell ⟨g, 1, none⟩ (.int .i64 ((k : Int) + 1))).heap[g]? = some (.cells #[.slice (some ⟨b, off, none⟩) n c, .int .i64 ((k : Int) + 1), .int .u64 seed] 56 (0, 0)) := by (focus (repeat' first | with_reducible assumption | (with_reducible refine heap_drew ?_) | (with_reducible refine heap_drewN ?_) | (with_reducible refine heap_new ?_; focus (first | rfl | omega | (simp; done))) | (with_reducible refine heap_old ?_) | (with_reducible apply heap_near') | ((with_reducible show Array.setIfInBounds _ _ _ = _); rfl) | (with_reducible refine heap_far ?_ ?_; focus (first | omega | (simp; omega) | (simp; done))) | (with_reducible apply heap_grown; with_reducible assumption; (focus (first | omega | (simp; omega)))) | (with_reducible apply heap_call; with_reducible assumption)))
    have hg2 : w.grownBy ((w.drewN nq).setCell ⟨g, 1, none⟩ (.int .i64 ((k : Int) + 1))) (some g) := grown_of_drewN nq (grown_set (p := ⟨g, 1, none⟩) _)
    have hcell2 := hg2.cell hcell (by simpa using hne)
    clear hcell kc0 kc1 kc2 kf hh hb0
    generalize (w.drewN nq).setCell ⟨g, 1, none⟩ (.int .i64 ((k : Int) + 1)) = w2 at hh2 hg2 hcell2 ⊢
    have kc0 := Blk.cell hh2 0
    have kc1 := Blk.cell hh2 1
    have hi1 : (0 : Int) ≤ (k : Int) := by omega
    have hi2 : (k : Int) < (n : Int) := by omega
    go_quiet ((go_at_call 16; exact Calls.quiet_of_same (HR.out _)))
    go_wp2
    go_ret
    refine ⟨_, rfl, Int.emod_nonneg _ (by omega), Int.emod_lt_of_pos _ hm, ⟨k + 1, seed, by omega, ?_⟩, grown_drewN hg2 _⟩
    exact hh2
  · have hd : decide (k < n) = false := by simpa using hlt
    go_enter Tryd.func26, Tryd.ntmps26
    go_wp2_with fail
    go_quiet (fail)
    go_wp2_with fail
    obtain ⟨e1, e2⟩ := next_range (IntKind.u64.wrap (seed * 6364136223846793005) + 1442695040888963407) m hm hm2
    generalize hs : IntKind.u64.wrap (IntKind.u64.wrap (seed * 6364136223846793005) + 1442695040888963407) = s1 at e1 e2 ⊢
    clear hs
    go_ret
    exact ⟨_, rfl, e1, e2, ⟨k, s1, hk, by (focus (repeat' first | with_reducible assumption | (with_reducible refine heap_drew ?_) | (with_reducible refine heap_drewN ?_) | (with_reducible refine heap_new ?_; focus (first | rfl | omega | (simp; done))) | (with_reducible refine heap_old ?_) | (with_reducible apply heap_near') | ((with_reducible show Array.setIfInBounds _ _ _ = _); rfl) | (with_reducible refine heap_far ?_ ?_; focus (first | omega | (simp; omega) | (simp; done))) | (with_reducible apply heap_grown; with_reducible assumption; (focus (first | omega | (simp; omega)))) | (with_reducible apply heap_call; with_reducible assumption)))⟩, grown_of_drewN nq (grown_set (p := ⟨g, 2, none⟩) _)⟩

end Go.Proofs.YtobgnncdldfkkaaDoor
