/- The tape of numbers: New, Next. -/
import Derived.Test.YtakbpdlfgjfbeaaDoorSS
import Derived.Test.YtakbpdlfgjfbeaaDoorWords2
import Derived.RegionTactic
import Derived.StillTailTactics
import Derived.ChangeAlike
namespace Go.Proofs.YtakbpdlfgjfbeaaDoor
open Go.RowKit
set_option linter.unusedSimpArgs false
set_option linter.unusedVariables false

theorem and16777215 (x : Int) : bits .and .i64 x 16777215 = x % 16777216 := by
  have e : (BitVec.ofInt 64 (16777215 : Int)).toNat = 16777215 := by decide
  show IntKind.i64.wrap ((BitVec.ofInt 64 x &&& BitVec.ofInt 64 16777215).toNat : Int) = _
  rw [BitVec.toNat_and, e, BitVec.toNat_ofInt, show (16777215 : Nat) = 2 ^ 24 - 1 from rfl, Nat.and_two_pow_sub_one_eq_mod, IntKind.wrap_i64]
  omega


/-- the slice (A, n, c) reads as the numbers zs -/
structure RdZ (w : World) (A : Option Addr) (n c : Nat) (zs : List Int) : Prop where
  len : n = zs.length
  cap : n ≤ c
  max : c ≤ maxLen
  reads : Reads w w.heap.size 1 A n (zs.map (.int .i64 ·))
theorem RdZ.opened {w : World} {A : Option Addr} {n c : Nat} {zs : List Int} (h : RdZ w A n c zs) (hn : 0 < n) :
    ∃ b off, A = some ⟨b, off, none⟩ ∧ b < w.heap.size ∧ ∀ j, j < n → w.cell? ⟨b, off + j, none⟩ = some (.int .i64 (zs.getD j 0)) := by
  obtain ⟨⟨b, off, sp⟩, e, hb, hc⟩ := h.reads.2 hn
  have hl := h.len
  have hcell : ∀ j, j < n → w.cell? ((⟨b, off, sp⟩ : Addr).add j) = some (.int .i64 (zs.getD j 0)) := fun j hj => by
    apply hc
    have hj2 : j < zs.length := by omega
    simp [List.getElem?_map, List.getElem?_eq_getElem hj2]
  have hsp : sp = none := by simpa [Addr.add] using World.cell?_spot (hcell 0 hn)
  subst hsp
  refine ⟨b, off, e, hb, fun j hj => ?_⟩
  have := hcell j hj
  unfold Addr.add at this
  by_cases h0 : j = 0
  · subst h0; simpa using this
  · simpa [h0] using this

/-- block g is a tape over the slice (A, n, c) -/
def TapeAt (w : World) (g : Nat) (A : Option Addr) (n c : Nat) : Prop :=
  ∃ (k : Nat), k ≤ n ∧ w.heap[g]? = some (.cells #[.slice A n c, .int .i64 k] 81 (0, 0))

theorem new_any (A : Option Addr) (n c : Nat) (w : World) :
    Calls Tryd.prog 30 #[.slice A n c] w fun e w' => e = .returned (.pointer (some ⟨w.heap.size, 0, none⟩)) ∧ TapeAt w' w.heap.size A n c ∧ Below w.heap.size w w' := by
  go_enter Tryd.func30, Tryd.ntmps30
  go_wp2
  go_ret
  exact ⟨rfl, ⟨0, Nat.zero_le _, heap_new rfl⟩, (Below.refl _ _).alloc (Nat.le_refl _) _⟩

theorem tgrown_set {w : World} {p : Addr} (u : Value) : w.grownBy (w.setCell p u) (some p.block) :=
  ⟨rfl, rfl, rfl, by simp [World.setCell], fun k _ hne => Below.heap_setCell w p u k (fun e => hne (by rw [e]))⟩
theorem tgrown_drewN {a w : World} {row : Option Nat} (h : a.grownBy w row) (n : Nat) : a.grownBy (w.drewN n) row := ⟨h.os, h.tape, h.output, h.size, h.block⟩
theorem tgrown_of_drewN {w w' : World} {row : Option Nat} (n : Nat) (h : (w.drewN n).grownBy w' row) : w.grownBy w' row := ⟨h.os, h.tape, h.output, h.size, h.block⟩

/-- a number from 0 to m - 1; only block g has changed -/
def TNext (w : World) (g : Nat) (A : Option Addr) (n c : Nat) (m : Int) (e : Ending) (w' : World) : Prop := ∃ k : Nat, e = .returned (.int .i64 k) ∧ (k : Int) < m ∧ TapeAt w' g A n c ∧ w.grownBy w' (some g)

set_option maxHeartbeats 1600000 in
theorem tnext_any (w0 : World) (g : Nat) (A : Option Addr) (n c : Nat) (zs : List Int) (m : Int) (w : World) (hr : RdZ w0 A n c zs) (hb0 : Below w0.heap.size w0 w) (hg : w0.heap.size ≤ g) (hs : TapeAt w g A n c) (hm : 0 < m) (hm2 : m ≤ 4611686018427387904) :
    Calls Tryd.prog 48 #[.pointer (some ⟨g, 0, none⟩), .int .i64 m] w (TNext w g A n c m) := by
  have hmax : n ≤ maxLen := Nat.le_trans hr.cap hr.max
  unfold maxLen at hmax
  obtain ⟨k, hk, hh⟩ := hs
  have kc0 := Blk.cell hh 0
  have kc1 := Blk.cell hh 1
  have kf := Blk.frozen hh
  by_cases hlt : k < n
  · obtain ⟨b, off, rfl, hb, hc⟩ := hr.opened (by omega)
    have hcell := (hb0.cell (p := ⟨b, off + k, none⟩) hb).trans (hc k hlt)
    have hne : b ≠ g := by omega
    have hand := and16777215 (zs.getD k 0)
    obtain ⟨x, hx⟩ : ∃ x : Nat, bits .and .i64 (zs.getD k 0) 16777215 = (x : Int) := ⟨((zs.getD k 0) % 16777216).toNat, by rw [hand]; omega⟩
    clear hc hand
    have hi1 : (0 : Int) ≤ (k : Int) := by omega
    have hi2 : (k : Int) < (n : Int) := by omega
    have hx2 : ((x : Int).tmod m) = (((x : Int) % m).toNat : Int) := by
      rw [Int.tmod_eq_emod_of_nonneg (by omega)]
      have := Int.emod_nonneg (x : Int) (by omega : m ≠ 0)
      omega
    have hx3 : (((x : Int) % m).toNat : Int) < m := by
      have := Int.emod_nonneg (x : Int) (by omega : m ≠ 0)
      have := Int.emod_lt_of_pos (x : Int) hm
      omega
    generalize ((x : Int) % m).toNat = r at hx2 hx3
    generalize zs.getD k 0 = z at *
    go_enter Tryd.func48, Tryd.ntmps48
    go_wp2_with fail
    go_quiet (fail)
    go_wp2_with fail
    go_quiet (fail)
    go_wp2_with fail
    go_ret
    exact ⟨r, rfl, hx3, ⟨k + 1, by omega, by (focus (repeat' first | with_reducible assumption | (with_reducible refine heap_drew ?_) | (with_reducible refine heap_drewN ?_) | (with_reducible refine heap_new ?_; focus (first | rfl | omega | (simp; done))) | (with_reducible refine heap_old ?_) | (with_reducible apply heap_near') | ((with_reducible show Array.setIfInBounds _ _ _ = _); rfl) | (with_reducible refine heap_far ?_ ?_; focus (first | omega | (simp; omega) | (simp; done))) | (with_reducible apply heap_grown; with_reducible assumption; (focus (first | omega | (simp; omega)))) | (with_reducible apply heap_call; with_reducible assumption)))⟩, tgrown_of_drewN _ (tgrown_set (p := ⟨g, 1, none⟩) _)⟩
  · have hd : decide (k < n) = false := by simpa using hlt
    have hi2 : (n : Int) ≤ (k : Int) := by omega
    go_enter Tryd.func48, Tryd.ntmps48
    go_wp2_with fail
    go_quiet (fail)
    go_wp2_with fail
    go_ret
    exact ⟨0, rfl, hm, ⟨k, hk, hh⟩, ⟨rfl, rfl, rfl, Nat.le_refl _, fun _ _ _ => rfl⟩⟩
end Go.Proofs.YtakbpdlfgjfbeaaDoor
