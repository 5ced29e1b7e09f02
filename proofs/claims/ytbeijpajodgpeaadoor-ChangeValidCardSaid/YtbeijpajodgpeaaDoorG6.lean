/- The walk of the generator Change. Printed by gen_g6.py -/
import Derived.Test.YtbeijpajodgpeaaDoorMG
import Derived.Test.YtbeijpajodgpeaaDoorTab
namespace Go.Proofs.YtbeijpajodgpeaaDoor
open Go.RowKit
set_option linter.unusedSimpArgs false
set_option linter.unusedVariables false

theorem SG.nxt2 {w0 W : World} {g n c : Nat} {A : Option Addr} {zs : List Int} (h : SG w0 W g A n c zs) (m : Int) (hm : 0 < m) (hm2 : m ≤ 100000) :
    Calls Tryd.prog 26 #[.pointer (some ⟨g, 0, none⟩), .int .i64 m] W fun e W' => ∃ k : Int, e = .returned (.int .i64 k) ∧ 0 ≤ k ∧ k < m ∧ SG w0 W' g A n c zs ∧ W.grownBy W' (some g) :=
  (h.nxt m hm hm2).mono fun e W' ⟨k, h1, h2, h3, h4, h5⟩ => ⟨k, h1, h2, h3, h.next h4 h5, h5⟩
theorem SG.alloc {w0 W : World} {g n c : Nat} {A : Option Addr} {zs : List Int} (h : SG w0 W g A n c zs) (o : Obj) : SG w0 (W.alloc o) g A n c zs := h.call ((Below.refl _ _).alloc (Nat.le_refl _) o)
theorem grown_drewX {a w : World} {r : Option Nat} (h : a.grownBy w r) : a.grownBy w.drew r := ⟨h.os, h.tape, h.output, h.size, h.block⟩
theorem grown_allocX {a w : World} {r : Option Nat} (h : a.grownBy w r) (o : Obj) : a.grownBy (w.alloc o) r := grown_call h ((Below.refl _ _).alloc (Nat.le_refl _) o)
theorem ten_kz {y : World} {q t : Nat} {z0 z1 z2 z3 z4 z5 z6 z7 z8 z9 : Value} (h : y.heap[q]? = some (.cells #[z0, z1, z2, z3, z4, z5, z6, z7, z8, z9] t (0, 0))) (v0 v1 v2 v3 v4 v5 v6 v7 v8 v9 : Value) : ((((((((((y.setCell ⟨q, 0, none⟩ v0).setCell ⟨q, 1, none⟩ v1).setCell ⟨q, 2, none⟩ v2).setCell ⟨q, 3, none⟩ v3).setCell ⟨q, 4, none⟩ v4).setCell ⟨q, 5, none⟩ v5).setCell ⟨q, 6, none⟩ v6).setCell ⟨q, 7, none⟩ v7).setCell ⟨q, 8, none⟩ v8).setCell ⟨q, 9, none⟩ v9).heap[q]? = some (.cells #[v0, v1, v2, v3, v4, v5, v6, v7, v8, v9] t (0, 0)) := by
  have k0 : (y.setCell ⟨q, 0, none⟩ v0).heap[q]? = some (.cells #[v0, z1, z2, z3, z4, z5, z6, z7, z8, z9] t (0, 0)) := heap_set_near _ _ _ _ _ _ h
  have k1 : ((y.setCell ⟨q, 0, none⟩ v0).setCell ⟨q, 1, none⟩ v1).heap[q]? = some (.cells #[v0, v1, z2, z3, z4, z5, z6, z7, z8, z9] t (0, 0)) := heap_set_near _ _ _ _ _ _ k0
  have k2 : (((y.setCell ⟨q, 0, none⟩ v0).setCell ⟨q, 1, none⟩ v1).setCell ⟨q, 2, none⟩ v2).heap[q]? = some (.cells #[v0, v1, v2, z3, z4, z5, z6, z7, z8, z9] t (0, 0)) := heap_set_near _ _ _ _ _ _ k1
  have k3 : ((((y.setCell ⟨q, 0, none⟩ v0).setCell ⟨q, 1, none⟩ v1).setCell ⟨q, 2, none⟩ v2).setCell ⟨q, 3, none⟩ v3).heap[q]? = some (.cells #[v0, v1, v2, v3, z4, z5, z6, z7, z8, z9] t (0, 0)) := heap_set_near _ _ _ _ _ _ k2
  have k4 : (((((y.setCell ⟨q, 0, none⟩ v0).setCell ⟨q, 1, none⟩ v1).setCell ⟨q, 2, none⟩ v2).setCell ⟨q, 3, none⟩ v3).setCell ⟨q, 4, none⟩ v4).heap[q]? = some (.cells #[v0, v1, v2, v3, v4, z5, z6, z7, z8, z9] t (0, 0)) := heap_set_near _ _ _ _ _ _ k3
  have k5 : ((((((y.setCell ⟨q, 0, none⟩ v0).setCell ⟨q, 1, none⟩ v1).setCell ⟨q, 2, none⟩ v2).setCell ⟨q, 3, none⟩ v3).setCell ⟨q, 4, none⟩ v4).setCell ⟨q, 5, none⟩ v5).heap[q]? = some (.cells #[v0, v1, v2, v3, v4, v5, z6, z7, z8, z9] t (0, 0)) := heap_set_near _ _ _ _ _ _ k4
  have k6 : (((((((y.setCell ⟨q, 0, none⟩ v0).setCell ⟨q, 1, none⟩ v1).setCell ⟨q, 2, none⟩ v2).setCell ⟨q, 3, none⟩ v3).setCell ⟨q, 4, none⟩ v4).setCell ⟨q, 5, none⟩ v5).setCell ⟨q, 6, none⟩ v6).heap[q]? = some (.cells #[v0, v1, v2, v3, v4, v5, v6, z7, z8, z9] t (0, 0)) := heap_set_near _ _ _ _ _ _ k5
  have k7 : ((((((((y.setCell ⟨q, 0, none⟩ v0).setCell ⟨q, 1, none⟩ v1).setCell ⟨q, 2, none⟩ v2).setCell ⟨q, 3, none⟩ v3).setCell ⟨q, 4, none⟩ v4).setCell ⟨q, 5, none⟩ v5).setCell ⟨q, 6, none⟩ v6).setCell ⟨q, 7, none⟩ v7).heap[q]? = some (.cells #[v0, v1, v2, v3, v4, v5, v6, v7, z8, z9] t (0, 0)) := heap_set_near _ _ _ _ _ _ k6
  have k8 : (((((((((y.setCell ⟨q, 0, none⟩ v0).setCell ⟨q, 1, none⟩ v1).setCell ⟨q, 2, none⟩ v2).setCell ⟨q, 3, none⟩ v3).setCell ⟨q, 4, none⟩ v4).setCell ⟨q, 5, none⟩ v5).setCell ⟨q, 6, none⟩ v6).setCell ⟨q, 7, none⟩ v7).setCell ⟨q, 8, none⟩ v8).heap[q]? = some (.cells #[v0, v1, v2, v3, v4, v5, v6, v7, v8, z9] t (0, 0)) := heap_set_near _ _ _ _ _ _ k7
  have k9 : ((((((((((y.setCell ⟨q, 0, none⟩ v0).setCell ⟨q, 1, none⟩ v1).setCell ⟨q, 2, none⟩ v2).setCell ⟨q, 3, none⟩ v3).setCell ⟨q, 4, none⟩ v4).setCell ⟨q, 5, none⟩ v5).setCell ⟨q, 6, none⟩ v6).setCell ⟨q, 7, none⟩ v7).setCell ⟨q, 8, none⟩ v8).setCell ⟨q, 9, none⟩ v9).heap[q]? = some (.cells #[v0, v1, v2, v3, v4, v5, v6, v7, v8, v9] t (0, 0)) := heap_set_near _ _ _ _ _ _ k8
  exact k9
theorem SG.ten {w0 y : World} {g n c q : Nat} {A : Option Addr} {zs : List Int} (h : SG w0 y g A n c zs) (hq : g ≠ q) (hq0 : w0.heap.size ≤ q) (v0 v1 v2 v3 v4 v5 v6 v7 v8 v9 : Value) : SG w0 ((((((((((y.setCell ⟨q, 0, none⟩ v0).setCell ⟨q, 1, none⟩ v1).setCell ⟨q, 2, none⟩ v2).setCell ⟨q, 3, none⟩ v3).setCell ⟨q, 4, none⟩ v4).setCell ⟨q, 5, none⟩ v5).setCell ⟨q, 6, none⟩ v6).setCell ⟨q, 7, none⟩ v7).setCell ⟨q, 8, none⟩ v8).setCell ⟨q, 9, none⟩ v9) g A n c zs := ((((((((((h.set hq hq0 v0).set hq hq0 v1).set hq hq0 v2).set hq hq0 v3).set hq hq0 v4).set hq hq0 v5).set hq hq0 v6).set hq hq0 v7).set hq hq0 v8).set hq hq0 v9)
theorem grown_ten {W y : World} {r : Option Nat} {q : Nat} (h : W.grownBy y r) (hq : W.heap.size ≤ q) (v0 v1 v2 v3 v4 v5 v6 v7 v8 v9 : Value) : W.grownBy ((((((((((y.setCell ⟨q, 0, none⟩ v0).setCell ⟨q, 1, none⟩ v1).setCell ⟨q, 2, none⟩ v2).setCell ⟨q, 3, none⟩ v3).setCell ⟨q, 4, none⟩ v4).setCell ⟨q, 5, none⟩ v5).setCell ⟨q, 6, none⟩ v6).setCell ⟨q, 7, none⟩ v7).setCell ⟨q, 8, none⟩ v8).setCell ⟨q, 9, none⟩ v9) r := (grown_setN (grown_setN (grown_setN (grown_setN (grown_setN (grown_setN (grown_setN (grown_setN (grown_setN (grown_setN h hq v0) hq v1) hq v2) hq v3) hq v4) hq v5) hq v6) hq v7) hq v8) hq v9)
theorem heap_grown_do {G : Prop} {w w' : World} {g q : Nat} {x : Obj} (hg : w.grownBy w' (some g)) (hne : q ≠ g) (h : w.heap[q]? = some x) (k : w'.heap[q]? = some x → G) : G := k (heap_grown hg hne h)
theorem grown_do {G : Prop} {w w1 w2 : World} {r : Option Nat} (hg : w1.grownBy w2 r) (h : w.grownBy w1 r) (k : w.grownBy w2 r → G) : G := k (h.trans hg)
theorem blk_gr {G : Prop} {w1 w2 : World} {q g t m : Nat} {cs : Array Value} (hg : w1.grownBy w2 (some g)) (hne : q ≠ g) (hgt : m < q) (h : w1.heap[q]? = some (.cells cs t (0, 0))) (k : (∀ i, w2.cell? ⟨q, i, none⟩ = cs[i]?) → (∀ i, w2.frozen? ⟨q, i, none⟩ = false) → q < w2.heap.size → w2.heap[q]? = some (.cells cs t (0, 0)) → q ≠ g → m < q → G) : G :=
  have h2 := heap_grown hg hne h
  k (Blk.cell h2) (Blk.frozen h2) (Blk.lt h2) h2 hne hgt
theorem blk_is {G : Prop} {w : World} {g t : Nat} {cs : Array Value} (h : w.heap[g]? = some (.cells cs t (0, 0))) (k : (∀ i, w.cell? ⟨g, i, none⟩ = cs[i]?) → (∀ i, w.frozen? ⟨g, i, none⟩ = false) → g < w.heap.size → w.heap[g]? = some (.cells cs t (0, 0)) → G) : G := k (Blk.cell h) (Blk.frozen h) (Blk.lt h) h
set_option maxRecDepth 100000 in
set_option maxHeartbeats 16000000 in
theorem change_mk (w0 : World) (g : Nat) (A : Option Addr) (n c : Nat) (zs : List Int) (ck : Int) (W : World) (h : SG w0 W g A n c zs) (hck : 0 ≤ ck ∧ ck ≤ 8) :
    Calls Tryd.prog 20 #[.pointer (some ⟨g, 0, none⟩), .int .i64 ck] W (RMC w0 W g A n c zs) := by
  have hgl := h.lt
  have hg0 := h.g0
  have kr0 : (W.alloc (.cells #[.int .i64 0, .string ⟨#[]⟩, .string ⟨#[]⟩, .int .i64 0, .string ⟨#[]⟩, .int .i64 0, .string ⟨#[]⟩, .string ⟨#[]⟩, .int .i64 0, .slice none 0 0] 31)).heap[W.heap.size]? = some (.cells #[.int .i64 0, .string ⟨#[]⟩, .string ⟨#[]⟩, .int .i64 0, .string ⟨#[]⟩, .int .i64 0, .string ⟨#[]⟩, .string ⟨#[]⟩, .int .i64 0, .slice none 0 0] 31 (0, 0)) := heap_new rfl
  have hS0 := h.call ((Below.refl _ _).alloc (Nat.le_refl _) (.cells #[.int .i64 0, .string ⟨#[]⟩, .string ⟨#[]⟩, .int .i64 0, .string ⟨#[]⟩, .int .i64 0, .string ⟨#[]⟩, .string ⟨#[]⟩, .int .i64 0, .slice none 0 0] 31) : Below W.heap.size W (W.alloc (.cells #[.int .i64 0, .string ⟨#[]⟩, .string ⟨#[]⟩, .int .i64 0, .string ⟨#[]⟩, .int .i64 0, .string ⟨#[]⟩, .string ⟨#[]⟩, .int .i64 0, .slice none 0 0] 31)))
  have hq0 : W.grownBy (W.alloc (.cells #[.int .i64 0, .string ⟨#[]⟩, .string ⟨#[]⟩, .int .i64 0, .string ⟨#[]⟩, .int .i64 0, .string ⟨#[]⟩, .string ⟨#[]⟩, .int .i64 0, .slice none 0 0] 31)) (some g) := World.grownBy_alloc W _ _
  have hn3 : g ≠ W.heap.size := by omega
  have hw0W : w0.heap.size ≤ W.heap.size := by omega
  clear h
  go_enter Tryd.func20, Tryd.ntmps20
  go_upto_region 1 with fail
  generalize W.alloc (.cells #[.int .i64 0, .string ⟨#[]⟩, .string ⟨#[]⟩, .int .i64 0, .string ⟨#[]⟩, .int .i64 0, .string ⟨#[]⟩, .string ⟨#[]⟩, .int .i64 0, .slice none 0 0] 31) = y0 at *
  go_cut [5] (fun v5 wx => ∃ (bc k : Nat) (u tn : ByteArray) (ts : Int), v5 = .pointer (some ⟨bc, 0, none⟩) ∧ k < 14 ∧ isUs u = true ∧ tv ts tn = true ∧ W.heap.size < bc ∧ wx.heap[bc]? = some (.cells #[.int .i64 (kndS k), .string u, .string ⟨#[]⟩, .int .i64 ts, .string tn, .int .i64 0, .string ⟨#[]⟩, .string ⟨#[]⟩, .int .i64 0, .slice none 0 0] 31 (0, 0)) ∧ wx.heap[W.heap.size]? = some (.cells #[.int .i64 0, .string ⟨#[]⟩, .string ⟨#[]⟩, .int .i64 0, .string ⟨#[]⟩, .int .i64 0, .string ⟨#[]⟩, .string ⟨#[]⟩, .int .i64 0, .slice none 0 0] 31 (0, 0)) ∧ SG w0 wx g A n c zs ∧ W.grownBy wx (some g))
  case first =>
    have hz0 := Blk.lt kr0
    have hx0 : y0.heap.size ≠ g := Nat.ne_of_gt (Nat.lt_trans hgl hz0)
    refine wp_region_held_drew (S := fun _ => True) (by kernel_rfl) ?_ (fun hHeld0 => ?_)
    · try dsimp only
      try exact trivial
    refine wpAnyH_take (i := 0) (oi := { dst := some 6, op := Go.Op.build 76 #[(0, Go.Operand.const (Go.Value.int Go.IntKind.i64 1)), (1, Go.Operand.const (Go.Value.int Go.IntKind.i64 1)), (2, Go.Operand.const (Go.Value.int Go.IntKind.i64 1)), (3, Go.Operand.const (Go.Value.int Go.IntKind.i64 1)), (4, Go.Operand.const (Go.Value.int Go.IntKind.i64 1)), (5, Go.Operand.const (Go.Value.int Go.IntKind.i64 2)), (6, Go.Operand.const (Go.Value.int Go.IntKind.i64 3)), (7, Go.Operand.const (Go.Value.int Go.IntKind.i64 4)), (8, Go.Operand.const (Go.Value.int Go.IntKind.i64 5)), (9, Go.Operand.const (Go.Value.int Go.IntKind.i64 6)), (10, Go.Operand.const (Go.Value.int Go.IntKind.i64 7)), (11, Go.Operand.const (Go.Value.int Go.IntKind.i64 8)), (12, Go.Operand.const (Go.Value.int Go.IntKind.i64 9)), (13, Go.Operand.const (Go.Value.int Go.IntKind.i64 10))], type := 76, pos := "make.go:120", after := #[], guard := none }) (v := .agg #[.int .i64 1, .int .i64 1, .int .i64 1, .int .i64 1, .int .i64 1, .int .i64 2, .int .i64 3, .int .i64 4, .int .i64 5, .int .i64 6, .int .i64 7, .int .i64 8, .int .i64 9, .int .i64 10]) rfl (by kernel_rfl) (by kernel_rfl) (by kernel_rfl) (fun _ _ _ h => h) (Or.inl ⟨by rfl, ?_⟩) (by assumption) ?_
    · (intro W hSw; (try dsimp only at hSw); go_simp; try with_reducible rfl)
    try simp only [Act.put, List.setIfInBounds_toArray, List.set_cons_zero, List.set_cons_succ]
    refine wpAnyH_take (i := 1) (oi := { dst := some 7, op := Go.Op.move (Go.Operand.tmp 0), type := 25, pos := "make.go:120", after := #[], guard := none }) (v := .pointer (some ⟨g, 0, none⟩)) rfl (by kernel_rfl) (by kernel_rfl) (by kernel_rfl) (fun _ _ _ h => h) (Or.inl ⟨by rfl, ?_⟩) (by assumption) ?_
    · (intro W hSw; (try dsimp only at hSw); go_simp; try with_reducible rfl)
    try simp only [Act.put, List.setIfInBounds_toArray, List.set_cons_zero, List.set_cons_succ]
    refine wpAnyH_take (i := 4) (oi := { dst := some 10, op := Go.Op.move (Go.Operand.tmp 0), type := 25, pos := "make.go:120", after := #[], guard := none }) (v := .pointer (some ⟨g, 0, none⟩)) rfl (by kernel_rfl) (by kernel_rfl) (by kernel_rfl) (fun _ _ _ h => h) (Or.inl ⟨by rfl, ?_⟩) (by assumption) ?_
    · (intro W hSw; (try dsimp only at hSw); go_simp; try with_reducible rfl)
    try simp only [Act.put, List.setIfInBounds_toArray, List.set_cons_zero, List.set_cons_succ]
    refine wpAnyH_take (i := 6) (oi := { dst := some 12, op := Go.Op.move (Go.Operand.tmp 0), type := 25, pos := "make.go:120", after := #[], guard := none }) (v := .pointer (some ⟨g, 0, none⟩)) rfl (by kernel_rfl) (by kernel_rfl) (by kernel_rfl) (fun _ _ _ h => h) (Or.inl ⟨by rfl, ?_⟩) (by assumption) ?_
    · (intro W hSw; (try dsimp only at hSw); go_simp; try with_reducible rfl)
    try simp only [Act.put, List.setIfInBounds_toArray, List.set_cons_zero, List.set_cons_succ]
    refine wpAnyH_ready (rs := [2, 9]) (by kernel_rfl) (by simp) ?_
    refine AllReadyH.cons (o := { dst := some 8, op := Go.Op.call { callee := Go.Callee.value (Go.Operand.func 26), args := #[Go.Operand.tmp 7, Go.Operand.const (Go.Value.int Go.IntKind.i64 14)], argTypes := #[25, 3] }, type := 3, pos := "make.go:120", after := #[{ on := 1, ground := Go.Ground.data }], guard := none }) rfl (fun K hK => ?_) ?_
    · go_simp
      (go_at_call 26; ((with_reducible refine (SG.nxt2 (w0 := w0) (A := A) (n := n) (c := c) (zs := zs) ?_ 14 ?_ ?_).mono ?_); (focus ((focus (repeat' first | with_reducible assumption | (with_reducible refine SG.drew ?_) | (with_reducible refine SG.alloc ?_ _) | (with_reducible refine SG.set ?_ ?_ ?_ _) | omega)); done)); (focus omega); (focus omega); rintro e u1 ⟨k, rfl, k0, k1, hS1, hg1⟩; refine heap_grown_do (q := W.heap.size) (x := .cells #[.int .i64 0, .string ⟨#[]⟩, .string ⟨#[]⟩, .int .i64 0, .string ⟨#[]⟩, .int .i64 0, .string ⟨#[]⟩, .string ⟨#[]⟩, .int .i64 0, .slice none 0 0] 31 (0, 0)) hg1 hn3.symm ?_ ?_; (focus ((focus (repeat' first | with_reducible assumption | (with_reducible refine heap_drew ?_) | (with_reducible refine heap_drewN ?_) | (with_reducible refine heap_new ?_; focus (first | rfl | omega | (simp; done))) | (with_reducible refine heap_old ?_) | (with_reducible apply heap_near') | ((with_reducible show Array.setIfInBounds _ _ _ = _); rfl) | (with_reducible refine heap_far ?_ ?_; focus (first | omega | (simp; omega) | (simp; done))) | (with_reducible apply heap_grown; with_reducible assumption; (focus (first | omega | (simp; omega)))) | (with_reducible apply heap_call; with_reducible assumption))); done)); intro kr1; have hz1 := Blk.lt kr1; refine grown_do (w := W) hg1 ?_ ?_; (focus ((focus (repeat' first | with_reducible assumption | (with_reducible refine grown_drewX ?_) | (with_reducible refine grown_allocX ?_ _) | (with_reducible refine grown_setN ?_ ?_ _) | with_reducible exact World.grownBy.refl _ _ | omega)); done)); intro hq1; obtain ⟨k, rfl⟩ := Int.eq_ofNat_of_zero_le k0; (have hk14 : k < 14 := by omega); (have hix := knd_idx hk14); (have hx1 := Nat.ne_of_gt (Nat.lt_trans hgl hz1)); (first | (refine blk_gr hg1 hx0 hz0 (heap_new rfl) ?_; intro kcA kfA kzA khA hneA hgtA) | skip)))
      try go_wp2_with fail
      refine hK.out _ _ ?_ (fun hHeld1 => ?_)
      · try dsimp only
        try exact trivial
      clear hK K hHeld0
      try simp only [Act.put, List.setIfInBounds_toArray, List.set_cons_zero, List.set_cons_succ]
      refine wpAnyH_take (i := 3) (oi := { dst := some 9, op := Go.Op.index 76 (Go.Operand.tmp 6) (Go.Operand.tmp 8), type := 3, pos := "make.go:120", after := #[{ on := 0, ground := Go.Ground.data }, { on := 2, ground := Go.Ground.data }], guard := none }) (v := .int .i64 (kndS k)) rfl (by kernel_rfl) (by kernel_rfl) (by kernel_rfl) (fun _ _ _ h => h) (Or.inl ⟨by rfl, ?_⟩) (by assumption) ?_
      · (intro W hSw; (try dsimp only at hSw); go_simp; try with_reducible rfl)
      try simp only [Act.put, List.setIfInBounds_toArray, List.set_cons_zero, List.set_cons_succ]
      refine wpAnyH_ready (rs := [5, 9]) (by kernel_rfl) (by simp) ?_
      refine AllReadyH.cons (o := { dst := some 11, op := Go.Op.call { callee := Go.Callee.value (Go.Operand.func 33), args := #[Go.Operand.tmp 10], argTypes := #[25] }, type := 9, pos := "make.go:120", after := #[{ on := 4, ground := Go.Ground.data }, { on := 2, ground := Go.Ground.chain }], guard := none }) rfl (fun K hK => ?_) ?_
      · go_simp
        (go_at_call 33; ((with_reducible refine (user_any w0 g A n c zs _ ?_).mono ?_); (focus ((focus (repeat' first | with_reducible assumption | (with_reducible refine SG.drew ?_) | (with_reducible refine SG.alloc ?_ _) | (with_reducible refine SG.set ?_ ?_ ?_ _) | omega)); done)); rintro e u2 ⟨u, rfl, ⟨hu, hu3⟩, hS2, hg2⟩; refine heap_grown_do (q := W.heap.size) (x := .cells #[.int .i64 0, .string ⟨#[]⟩, .string ⟨#[]⟩, .int .i64 0, .string ⟨#[]⟩, .int .i64 0, .string ⟨#[]⟩, .string ⟨#[]⟩, .int .i64 0, .slice none 0 0] 31 (0, 0)) hg2 hn3.symm ?_ ?_; (focus ((focus (repeat' first | with_reducible assumption | (with_reducible refine heap_drew ?_) | (with_reducible refine heap_drewN ?_) | (with_reducible refine heap_new ?_; focus (first | rfl | omega | (simp; done))) | (with_reducible refine heap_old ?_) | (with_reducible apply heap_near') | ((with_reducible show Array.setIfInBounds _ _ _ = _); rfl) | (with_reducible refine heap_far ?_ ?_; focus (first | omega | (simp; omega) | (simp; done))) | (with_reducible apply heap_grown; with_reducible assumption; (focus (first | omega | (simp; omega)))) | (with_reducible apply heap_call; with_reducible assumption))); done)); intro kr2; have hz2 := Blk.lt kr2; refine grown_do (w := W) hg2 ?_ ?_; (focus ((focus (repeat' first | with_reducible assumption | (with_reducible refine grown_drewX ?_) | (with_reducible refine grown_allocX ?_ _) | (with_reducible refine grown_setN ?_ ?_ _) | with_reducible exact World.grownBy.refl _ _ | omega)); done)); intro hq2; (have hx2 := Nat.ne_of_gt (Nat.lt_trans hgl hz2)); (first | (refine blk_gr hg2 hneA hgtA khA ?_; intro kcB kfB kzB khB hneB hgtB) | (refine blk_gr hg2 hx1 hz1 (heap_new rfl) ?_; intro kcB kfB kzB khB hneB hgtB) | skip)))
        try go_wp2_with fail
        refine hK.out _ _ ?_ (fun hHeld2 => ?_)
        · try dsimp only
          try exact trivial
        clear hK K hHeld1
        try simp only [Act.put, List.setIfInBounds_toArray, List.set_cons_zero, List.set_cons_succ]
        refine wpAnyH_ready (rs := [7, 9]) (by kernel_rfl) (by simp) ?_
        refine AllReadyH.cons (o := { dst := some 13, op := Go.Op.call { callee := Go.Callee.value (Go.Operand.func 34), args := #[Go.Operand.tmp 12], argTypes := #[25] }, type := 28, pos := "make.go:120", after := #[{ on := 6, ground := Go.Ground.data }, { on := 5, ground := Go.Ground.chain }], guard := none }) rfl (fun K hK => ?_) ?_
        · go_simp
          (go_at_call 34; ((with_reducible refine (title_mk w0 g A n c zs _ ?_).mono ?_); (focus ((focus (repeat' first | with_reducible assumption | (with_reducible refine SG.drew ?_) | (with_reducible refine SG.alloc ?_ _) | (with_reducible refine SG.set ?_ ?_ ?_ _) | omega)); done)); rintro e u3 ⟨p, rfl, hp, hS3, hg3⟩; refine heap_grown_do (q := W.heap.size) (x := .cells #[.int .i64 0, .string ⟨#[]⟩, .string ⟨#[]⟩, .int .i64 0, .string ⟨#[]⟩, .int .i64 0, .string ⟨#[]⟩, .string ⟨#[]⟩, .int .i64 0, .slice none 0 0] 31 (0, 0)) hg3 hn3.symm ?_ ?_; (focus ((focus (repeat' first | with_reducible assumption | (with_reducible refine heap_drew ?_) | (with_reducible refine heap_drewN ?_) | (with_reducible refine heap_new ?_; focus (first | rfl | omega | (simp; done))) | (with_reducible refine heap_old ?_) | (with_reducible apply heap_near') | ((with_reducible show Array.setIfInBounds _ _ _ = _); rfl) | (with_reducible refine heap_far ?_ ?_; focus (first | omega | (simp; omega) | (simp; done))) | (with_reducible apply heap_grown; with_reducible assumption; (focus (first | omega | (simp; omega)))) | (with_reducible apply heap_call; with_reducible assumption))); done)); intro kr3; have hz3 := Blk.lt kr3; refine grown_do (w := W) hg3 ?_ ?_; (focus ((focus (repeat' first | with_reducible assumption | (with_reducible refine grown_drewX ?_) | (with_reducible refine grown_allocX ?_ _) | (with_reducible refine grown_setN ?_ ?_ _) | with_reducible exact World.grownBy.refl _ _ | omega)); done)); intro hq3; (first | (refine blk_gr hg3 hneB hgtB khB ?_; intro kcC kfC kzC khC hneC hgtC) | (refine blk_gr hg3 hx2 hz2 (heap_new rfl) ?_; intro kcC kfC kzC khC hneC hgtC) | skip)))
          try go_wp2_with fail
          refine hK.out _ _ ?_ (fun hHeld3 => ?_)
          · try dsimp only
            try exact trivial
          clear hK K hHeld2
          try simp only [Act.put, List.setIfInBounds_toArray, List.set_cons_zero, List.set_cons_succ]
          refine wpAnyH_take (i := 8) (oi := { dst := some 14, op := Go.Op.build 31 #[(0, Go.Operand.tmp 9), (1, Go.Operand.tmp 11), (3, Go.Operand.tmp 13)], type := 31, pos := "make.go:120", after := #[{ on := 3, ground := Go.Ground.data }, { on := 5, ground := Go.Ground.data }, { on := 7, ground := Go.Ground.data }], guard := none }) (v := .agg #[.int .i64 (kndS k), .string u, .string ⟨#[]⟩, .int .i64 p.1, .string p.2, .int .i64 0, .string ⟨#[]⟩, .string ⟨#[]⟩, .int .i64 0, .slice none 0 0]) rfl (by kernel_rfl) (by kernel_rfl) (by kernel_rfl) (fun _ _ _ h => h) (Or.inl ⟨by rfl, ?_⟩) (by assumption) ?_
          · (intro W hSw; (try dsimp only at hSw); go_simp; try with_reducible rfl)
          try simp only [Act.put, List.setIfInBounds_toArray, List.set_cons_zero, List.set_cons_succ]
          refine wpAnyH_ready (rs := [9]) (by kernel_rfl) (by simp) ?_
          refine AllReadyH.cons (o := { dst := some 5, op := Go.Op.alloc 31, type := 0, pos := "make.go:120", after := #[], guard := none }) rfl (fun K hK => ?_) ?_
          · go_simp
            refine hK.out _ _ ?_ (fun hHeld4 => ?_)
            · try dsimp only
              try exact trivial
            clear hK K hHeld3
            try simp only [Act.put, List.setIfInBounds_toArray, List.set_cons_zero, List.set_cons_succ]
            refine wpAnyH_ready (rs := [10]) (by kernel_rfl) (by simp) ?_
            refine AllReadyH.cons (o := { dst := none, op := Go.Op.store 31 (Go.Operand.tmp 5) (Go.Operand.tmp 14), type := 0, pos := "make.go:120", after := #[{ on := 9, ground := Go.Ground.data }, { on := 8, ground := Go.Ground.data }, { on := 7, ground := Go.Ground.chain }, { on := 0, ground := Go.Ground.phase }, { on := 1, ground := Go.Ground.phase }, { on := 2, ground := Go.Ground.phase }, { on := 3, ground := Go.Ground.phase }, { on := 4, ground := Go.Ground.phase }, { on := 5, ground := Go.Ground.phase }, { on := 6, ground := Go.Ground.phase }, { on := 7, ground := Go.Ground.phase }, { on := 8, ground := Go.Ground.phase }, { on := 9, ground := Go.Ground.phase }], guard := none }) rfl (fun K hK => ?_) ?_
            · go_simp
              refine hK.out _ _ ?_ (fun hHeld5 => ?_)
              · try dsimp only
                try exact trivial
              clear hK K hHeld4
              try simp only [Act.put, List.setIfInBounds_toArray, List.set_cons_zero, List.set_cons_succ]
              refine wpAnyH_done (by kernel_rfl) ?_ _
              go_wp2_with fail
              go_meet
              have hl3 := fun o : Obj => ((Below.refl _ _).alloc (Nat.le_refl _) o : Below u3.heap.size u3 (u3.alloc o))
              first
                | (with_reducible refine ⟨_, k, u, p.2, p.1, rfl, hk14, hu, hp, hz3, heap_new rfl, heap_call (hl3 _) kr3, hS3.alloc _, grown_allocX hq3 _⟩)
                | ((have kz0 : (u3.setCell ⟨_, 0, none⟩ (.int .i64 (kndS k))).heap[(_ : Nat)]? = some (Obj.cells #[.int .i64 (kndS k), .string ⟨#[]⟩, .string ⟨#[]⟩, .int .i64 0, .string ⟨#[]⟩, .int .i64 0, .string ⟨#[]⟩, .string ⟨#[]⟩, .int .i64 0, .slice none 0 0] 31 (0, 0)) := heap_set_near _ _ _ _ _ _ khC); (have kz1 : ((u3.setCell ⟨_, 0, none⟩ (.int .i64 (kndS k))).setCell ⟨_, 1, none⟩ (.string u)).heap[(_ : Nat)]? = some (Obj.cells #[.int .i64 (kndS k), .string u, .string ⟨#[]⟩, .int .i64 0, .string ⟨#[]⟩, .int .i64 0, .string ⟨#[]⟩, .string ⟨#[]⟩, .int .i64 0, .slice none 0 0] 31 (0, 0)) := heap_set_near _ _ _ _ _ _ kz0); (have kz2 : (((u3.setCell ⟨_, 0, none⟩ (.int .i64 (kndS k))).setCell ⟨_, 1, none⟩ (.string u)).setCell ⟨_, 2, none⟩ (.string ⟨#[]⟩)).heap[(_ : Nat)]? = some (Obj.cells #[.int .i64 (kndS k), .string u, .string ⟨#[]⟩, .int .i64 0, .string ⟨#[]⟩, .int .i64 0, .string ⟨#[]⟩, .string ⟨#[]⟩, .int .i64 0, .slice none 0 0] 31 (0, 0)) := heap_set_near _ _ _ _ _ _ kz1); (have kz3 : ((((u3.setCell ⟨_, 0, none⟩ (.int .i64 (kndS k))).setCell ⟨_, 1, none⟩ (.string u)).setCell ⟨_, 2, none⟩ (.string ⟨#[]⟩)).setCell ⟨_, 3, none⟩ (.int .i64 p.1)).heap[(_ : Nat)]? = some (Obj.cells #[.int .i64 (kndS k), .string u, .string ⟨#[]⟩, .int .i64 p.1, .string ⟨#[]⟩, .int .i64 0, .string ⟨#[]⟩, .string ⟨#[]⟩, .int .i64 0, .slice none 0 0] 31 (0, 0)) := heap_set_near _ _ _ _ _ _ kz2); (have kz4 : (((((u3.setCell ⟨_, 0, none⟩ (.int .i64 (kndS k))).setCell ⟨_, 1, none⟩ (.string u)).setCell ⟨_, 2, none⟩ (.string ⟨#[]⟩)).setCell ⟨_, 3, none⟩ (.int .i64 p.1)).setCell ⟨_, 4, none⟩ (.string p.2)).heap[(_ : Nat)]? = some (Obj.cells #[.int .i64 (kndS k), .string u, .string ⟨#[]⟩, .int .i64 p.1, .string p.2, .int .i64 0, .string ⟨#[]⟩, .string ⟨#[]⟩, .int .i64 0, .slice none 0 0] 31 (0, 0)) := heap_set_near _ _ _ _ _ _ kz3); (have kz5 : ((((((u3.setCell ⟨_, 0, none⟩ (.int .i64 (kndS k))).setCell ⟨_, 1, none⟩ (.string u)).setCell ⟨_, 2, none⟩ (.string ⟨#[]⟩)).setCell ⟨_, 3, none⟩ (.int .i64 p.1)).setCell ⟨_, 4, none⟩ (.string p.2)).setCell ⟨_, 5, none⟩ (.int .i64 0)).heap[(_ : Nat)]? = some (Obj.cells #[.int .i64 (kndS k), .string u, .string ⟨#[]⟩, .int .i64 p.1, .string p.2, .int .i64 0, .string ⟨#[]⟩, .string ⟨#[]⟩, .int .i64 0, .slice none 0 0] 31 (0, 0)) := heap_set_near _ _ _ _ _ _ kz4); (have kz6 : (((((((u3.setCell ⟨_, 0, none⟩ (.int .i64 (kndS k))).setCell ⟨_, 1, none⟩ (.string u)).setCell ⟨_, 2, none⟩ (.string ⟨#[]⟩)).setCell ⟨_, 3, none⟩ (.int .i64 p.1)).setCell ⟨_, 4, none⟩ (.string p.2)).setCell ⟨_, 5, none⟩ (.int .i64 0)).setCell ⟨_, 6, none⟩ (.string ⟨#[]⟩)).heap[(_ : Nat)]? = some (Obj.cells #[.int .i64 (kndS k), .string u, .string ⟨#[]⟩, .int .i64 p.1, .string p.2, .int .i64 0, .string ⟨#[]⟩, .string ⟨#[]⟩, .int .i64 0, .slice none 0 0] 31 (0, 0)) := heap_set_near _ _ _ _ _ _ kz5); (have kz7 : ((((((((u3.setCell ⟨_, 0, none⟩ (.int .i64 (kndS k))).setCell ⟨_, 1, none⟩ (.string u)).setCell ⟨_, 2, none⟩ (.string ⟨#[]⟩)).setCell ⟨_, 3, none⟩ (.int .i64 p.1)).setCell ⟨_, 4, none⟩ (.string p.2)).setCell ⟨_, 5, none⟩ (.int .i64 0)).setCell ⟨_, 6, none⟩ (.string ⟨#[]⟩)).setCell ⟨_, 7, none⟩ (.string ⟨#[]⟩)).heap[(_ : Nat)]? = some (Obj.cells #[.int .i64 (kndS k), .string u, .string ⟨#[]⟩, .int .i64 p.1, .string p.2, .int .i64 0, .string ⟨#[]⟩, .string ⟨#[]⟩, .int .i64 0, .slice none 0 0] 31 (0, 0)) := heap_set_near _ _ _ _ _ _ kz6); (have kz8 : (((((((((u3.setCell ⟨_, 0, none⟩ (.int .i64 (kndS k))).setCell ⟨_, 1, none⟩ (.string u)).setCell ⟨_, 2, none⟩ (.string ⟨#[]⟩)).setCell ⟨_, 3, none⟩ (.int .i64 p.1)).setCell ⟨_, 4, none⟩ (.string p.2)).setCell ⟨_, 5, none⟩ (.int .i64 0)).setCell ⟨_, 6, none⟩ (.string ⟨#[]⟩)).setCell ⟨_, 7, none⟩ (.string ⟨#[]⟩)).setCell ⟨_, 8, none⟩ (.int .i64 0)).heap[(_ : Nat)]? = some (Obj.cells #[.int .i64 (kndS k), .string u, .string ⟨#[]⟩, .int .i64 p.1, .string p.2, .int .i64 0, .string ⟨#[]⟩, .string ⟨#[]⟩, .int .i64 0, .slice none 0 0] 31 (0, 0)) := heap_set_near _ _ _ _ _ _ kz7); (have kz9 : ((((((((((u3.setCell ⟨_, 0, none⟩ (.int .i64 (kndS k))).setCell ⟨_, 1, none⟩ (.string u)).setCell ⟨_, 2, none⟩ (.string ⟨#[]⟩)).setCell ⟨_, 3, none⟩ (.int .i64 p.1)).setCell ⟨_, 4, none⟩ (.string p.2)).setCell ⟨_, 5, none⟩ (.int .i64 0)).setCell ⟨_, 6, none⟩ (.string ⟨#[]⟩)).setCell ⟨_, 7, none⟩ (.string ⟨#[]⟩)).setCell ⟨_, 8, none⟩ (.int .i64 0)).setCell ⟨_, 9, none⟩ (.slice none 0 0)).heap[(_ : Nat)]? = some (Obj.cells #[.int .i64 (kndS k), .string u, .string ⟨#[]⟩, .int .i64 p.1, .string p.2, .int .i64 0, .string ⟨#[]⟩, .string ⟨#[]⟩, .int .i64 0, .slice none 0 0] 31 (0, 0)) := heap_set_near _ _ _ _ _ _ kz8); exact ⟨_, k, u, p.2, p.1, rfl, hk14, hu, hp, hgtC, kz9, ((heap_set_far _ _ _ _ _ (Nat.ne_of_lt hgtC)).trans ((heap_set_far _ _ _ _ _ (Nat.ne_of_lt hgtC)).trans ((heap_set_far _ _ _ _ _ (Nat.ne_of_lt hgtC)).trans ((heap_set_far _ _ _ _ _ (Nat.ne_of_lt hgtC)).trans ((heap_set_far _ _ _ _ _ (Nat.ne_of_lt hgtC)).trans ((heap_set_far _ _ _ _ _ (Nat.ne_of_lt hgtC)).trans ((heap_set_far _ _ _ _ _ (Nat.ne_of_lt hgtC)).trans ((heap_set_far _ _ _ _ _ (Nat.ne_of_lt hgtC)).trans ((heap_set_far _ _ _ _ _ (Nat.ne_of_lt hgtC)).trans ((heap_set_far _ _ _ _ _ (Nat.ne_of_lt hgtC)).trans kr3)))))))))), ((((((((((hS3.set (Ne.symm hneC) (Nat.le_trans hw0W (Nat.le_of_lt hgtC)) _).set (Ne.symm hneC) (Nat.le_trans hw0W (Nat.le_of_lt hgtC)) _).set (Ne.symm hneC) (Nat.le_trans hw0W (Nat.le_of_lt hgtC)) _).set (Ne.symm hneC) (Nat.le_trans hw0W (Nat.le_of_lt hgtC)) _).set (Ne.symm hneC) (Nat.le_trans hw0W (Nat.le_of_lt hgtC)) _).set (Ne.symm hneC) (Nat.le_trans hw0W (Nat.le_of_lt hgtC)) _).set (Ne.symm hneC) (Nat.le_trans hw0W (Nat.le_of_lt hgtC)) _).set (Ne.symm hneC) (Nat.le_trans hw0W (Nat.le_of_lt hgtC)) _).set (Ne.symm hneC) (Nat.le_trans hw0W (Nat.le_of_lt hgtC)) _).set (Ne.symm hneC) (Nat.le_trans hw0W (Nat.le_of_lt hgtC)) _), (grown_setN (grown_setN (grown_setN (grown_setN (grown_setN (grown_setN (grown_setN (grown_setN (grown_setN (grown_setN hq3 (Nat.le_of_lt hgtC) _) (Nat.le_of_lt hgtC) _) (Nat.le_of_lt hgtC) _) (Nat.le_of_lt hgtC) _) (Nat.le_of_lt hgtC) _) (Nat.le_of_lt hgtC) _) (Nat.le_of_lt hgtC) _) (Nat.le_of_lt hgtC) _) (Nat.le_of_lt hgtC) _) (Nat.le_of_lt hgtC) _)⟩)
            exact AllReadyH.nil
          exact AllReadyH.nil
        refine AllReadyH.cons (o := { dst := some 5, op := Go.Op.alloc 31, type := 0, pos := "make.go:120", after := #[], guard := none }) rfl (fun K hK => ?_) ?_
        · go_simp
          refine hK.out _ _ ?_ (fun hHeld3 => ?_)
          · try dsimp only
            try exact trivial
          clear hK K hHeld2
          try simp only [Act.put, List.setIfInBounds_toArray, List.set_cons_zero, List.set_cons_succ]
          refine wpAnyH_ready (rs := [7]) (by kernel_rfl) (by simp) ?_
          refine AllReadyH.cons (o := { dst := some 13, op := Go.Op.call { callee := Go.Callee.value (Go.Operand.func 34), args := #[Go.Operand.tmp 12], argTypes := #[25] }, type := 28, pos := "make.go:120", after := #[{ on := 6, ground := Go.Ground.data }, { on := 5, ground := Go.Ground.chain }], guard := none }) rfl (fun K hK => ?_) ?_
          · go_simp
            (go_at_call 34; ((with_reducible refine (title_mk w0 g A n c zs _ ?_).mono ?_); (focus ((focus (repeat' first | with_reducible assumption | (with_reducible refine SG.drew ?_) | (with_reducible refine SG.alloc ?_ _) | (with_reducible refine SG.set ?_ ?_ ?_ _) | omega)); done)); rintro e u3 ⟨p, rfl, hp, hS3, hg3⟩; refine heap_grown_do (q := W.heap.size) (x := .cells #[.int .i64 0, .string ⟨#[]⟩, .string ⟨#[]⟩, .int .i64 0, .string ⟨#[]⟩, .int .i64 0, .string ⟨#[]⟩, .string ⟨#[]⟩, .int .i64 0, .slice none 0 0] 31 (0, 0)) hg3 hn3.symm ?_ ?_; (focus ((focus (repeat' first | with_reducible assumption | (with_reducible refine heap_drew ?_) | (with_reducible refine heap_drewN ?_) | (with_reducible refine heap_new ?_; focus (first | rfl | omega | (simp; done))) | (with_reducible refine heap_old ?_) | (with_reducible apply heap_near') | ((with_reducible show Array.setIfInBounds _ _ _ = _); rfl) | (with_reducible refine heap_far ?_ ?_; focus (first | omega | (simp; omega) | (simp; done))) | (with_reducible apply heap_grown; with_reducible assumption; (focus (first | omega | (simp; omega)))) | (with_reducible apply heap_call; with_reducible assumption))); done)); intro kr3; have hz3 := Blk.lt kr3; refine grown_do (w := W) hg3 ?_ ?_; (focus ((focus (repeat' first | with_reducible assumption | (with_reducible refine grown_drewX ?_) | (with_reducible refine grown_allocX ?_ _) | (with_reducible refine grown_setN ?_ ?_ _) | with_reducible exact World.grownBy.refl _ _ | omega)); done)); intro hq3; (first | (refine blk_gr hg3 hneB hgtB khB ?_; intro kcC kfC kzC khC hneC hgtC) | (refine blk_gr hg3 hx2 hz2 (heap_new rfl) ?_; intro kcC kfC kzC khC hneC hgtC) | skip)))
            try go_wp2_with fail
            refine hK.out _ _ ?_ (fun hHeld4 => ?_)
            · try dsimp only
              try exact trivial
            clear hK K hHeld3
            try simp only [Act.put, List.setIfInBounds_toArray, List.set_cons_zero, List.set_cons_succ]
            refine wpAnyH_take (i := 8) (oi := { dst := some 14, op := Go.Op.build 31 #[(0, Go.Operand.tmp 9), (1, Go.Operand.tmp 11), (3, Go.Operand.tmp 13)], type := 31, pos := "make.go:120", after := #[{ on := 3, ground := Go.Ground.data }, { on := 5, ground := Go.Ground.data }, { on := 7, ground := Go.Ground.data }], guard := none }) (v := .agg #[.int .i64 (kndS k), .string u, .string ⟨#[]⟩, .int .i64 p.1, .string p.2, .int .i64 0, .string ⟨#[]⟩, .string ⟨#[]⟩, .int .i64 0, .slice none 0 0]) rfl (by kernel_rfl) (by kernel_rfl) (by kernel_rfl) (fun _ _ _ h => h) (Or.inl ⟨by rfl, ?_⟩) (by assumption) ?_
            · (intro W hSw; (try dsimp only at hSw); go_simp; try with_reducible rfl)
            try simp only [Act.put, List.setIfInBounds_toArray, List.set_cons_zero, List.set_cons_succ]
            refine wpAnyH_ready (rs := [10]) (by kernel_rfl) (by simp) ?_
            refine AllReadyH.cons (o := { dst := none, op := Go.Op.store 31 (Go.Operand.tmp 5) (Go.Operand.tmp 14), type := 0, pos := "make.go:120", after := #[{ on := 9, ground := Go.Ground.data }, { on := 8, ground := Go.Ground.data }, { on := 7, ground := Go.Ground.chain }, { on := 0, ground := Go.Ground.phase }, { on := 1, ground := Go.Ground.phase }, { on := 2, ground := Go.Ground.phase }, { on := 3, ground := Go.Ground.phase }, { on := 4, ground := Go.Ground.phase }, { on := 5, ground := Go.Ground.phase }, { on := 6, ground := Go.Ground.phase }, { on := 7, ground := Go.Ground.phase }, { on := 8, ground := Go.Ground.phase }, { on := 9, ground := Go.Ground.phase }], guard := none }) rfl (fun K hK => ?_) ?_
            · go_simp
              refine hK.out _ _ ?_ (fun hHeld5 => ?_)
              · try dsimp only
                try exact trivial
              clear hK K hHeld4
              try simp only [Act.put, List.setIfInBounds_toArray, List.set_cons_zero, List.set_cons_succ]
              refine wpAnyH_done (by kernel_rfl) ?_ _
              go_wp2_with fail
              go_meet
              have hl3 := fun o : Obj => ((Below.refl _ _).alloc (Nat.le_refl _) o : Below u3.heap.size u3 (u3.alloc o))
              first
                | (with_reducible refine ⟨_, k, u, p.2, p.1, rfl, hk14, hu, hp, hz3, heap_new rfl, heap_call (hl3 _) kr3, hS3.alloc _, grown_allocX hq3 _⟩)
                | ((have kz0 : (u3.setCell ⟨_, 0, none⟩ (.int .i64 (kndS k))).heap[(_ : Nat)]? = some (Obj.cells #[.int .i64 (kndS k), .string ⟨#[]⟩, .string ⟨#[]⟩, .int .i64 0, .string ⟨#[]⟩, .int .i64 0, .string ⟨#[]⟩, .string ⟨#[]⟩, .int .i64 0, .slice none 0 0] 31 (0, 0)) := heap_set_near _ _ _ _ _ _ khC); (have kz1 : ((u3.setCell ⟨_, 0, none⟩ (.int .i64 (kndS k))).setCell ⟨_, 1, none⟩ (.string u)).heap[(_ : Nat)]? = some (Obj.cells #[.int .i64 (kndS k), .string u, .string ⟨#[]⟩, .int .i64 0, .string ⟨#[]⟩, .int .i64 0, .string ⟨#[]⟩, .string ⟨#[]⟩, .int .i64 0, .slice none 0 0] 31 (0, 0)) := heap_set_near _ _ _ _ _ _ kz0); (have kz2 : (((u3.setCell ⟨_, 0, none⟩ (.int .i64 (kndS k))).setCell ⟨_, 1, none⟩ (.string u)).setCell ⟨_, 2, none⟩ (.string ⟨#[]⟩)).heap[(_ : Nat)]? = some (Obj.cells #[.int .i64 (kndS k), .string u, .string ⟨#[]⟩, .int .i64 0, .string ⟨#[]⟩, .int .i64 0, .string ⟨#[]⟩, .string ⟨#[]⟩, .int .i64 0, .slice none 0 0] 31 (0, 0)) := heap_set_near _ _ _ _ _ _ kz1); (have kz3 : ((((u3.setCell ⟨_, 0, none⟩ (.int .i64 (kndS k))).setCell ⟨_, 1, none⟩ (.string u)).setCell ⟨_, 2, none⟩ (.string ⟨#[]⟩)).setCell ⟨_, 3, none⟩ (.int .i64 p.1)).heap[(_ : Nat)]? = some (Obj.cells #[.int .i64 (kndS k), .string u, .string ⟨#[]⟩, .int .i64 p.1, .string ⟨#[]⟩, .int .i64 0, .string ⟨#[]⟩, .string ⟨#[]⟩, .int .i64 0, .slice none 0 0] 31 (0, 0)) := heap_set_near _ _ _ _ _ _ kz2); (have kz4 : (((((u3.setCell ⟨_, 0, none⟩ (.int .i64 (kndS k))).setCell ⟨_, 1, none⟩ (.string u)).setCell ⟨_, 2, none⟩ (.string ⟨#[]⟩)).setCell ⟨_, 3, none⟩ (.int .i64 p.1)).setCell ⟨_, 4, none⟩ (.string p.2)).heap[(_ : Nat)]? = some (Obj.cells #[.int .i64 (kndS k), .string u, .string ⟨#[]⟩, .int .i64 p.1, .string p.2, .int .i64 0, .string ⟨#[]⟩, .string ⟨#[]⟩, .int .i64 0, .slice none 0 0] 31 (0, 0)) := heap_set_near _ _ _ _ _ _ kz3); (have kz5 : ((((((u3.setCell ⟨_, 0, none⟩ (.int .i64 (kndS k))).setCell ⟨_, 1, none⟩ (.string u)).setCell ⟨_, 2, none⟩ (.string ⟨#[]⟩)).setCell ⟨_, 3, none⟩ (.int .i64 p.1)).setCell ⟨_, 4, none⟩ (.string p.2)).setCell ⟨_, 5, none⟩ (.int .i64 0)).heap[(_ : Nat)]? = some (Obj.cells #[.int .i64 (kndS k), .string u, .string ⟨#[]⟩, .int .i64 p.1, .string p.2, .int .i64 0, .string ⟨#[]⟩, .string ⟨#[]⟩, .int .i64 0, .slice none 0 0] 31 (0, 0)) := heap_set_near _ _ _ _ _ _ kz4); (have kz6 : (((((((u3.setCell ⟨_, 0, none⟩ (.int .i64 (kndS k))).setCell ⟨_, 1, none⟩ (.string u)).setCell ⟨_, 2, none⟩ (.string ⟨#[]⟩)).setCell ⟨_, 3, none⟩ (.int .i64 p.1)).setCell ⟨_, 4, none⟩ (.string p.2)).setCell ⟨_, 5, none⟩ (.int .i64 0)).setCell ⟨_, 6, none⟩ (.string ⟨#[]⟩)).heap[(_ : Nat)]? = some (Obj.cells #[.int .i64 (kndS k), .string u, .string ⟨#[]⟩, .int .i64 p.1, .string p.2, .int .i64 0, .string ⟨#[]⟩, .string ⟨#[]⟩, .int .i64 0, .slice none 0 0] 31 (0, 0)) := heap_set_near _ _ _ _ _ _ kz5); (have kz7 : ((((((((u3.setCell ⟨_, 0, none⟩ (.int .i64 (kndS k))).setCell ⟨_, 1, none⟩ (.string u)).setCell ⟨_, 2, none⟩ (.string ⟨#[]⟩)).setCell ⟨_, 3, none⟩ (.int .i64 p.1)).setCell ⟨_, 4, none⟩ (.string p.2)).setCell ⟨_, 5, none⟩ (.int .i64 0)).setCell ⟨_, 6, none⟩ (.string ⟨#[]⟩)).setCell ⟨_, 7, none⟩ (.string ⟨#[]⟩)).heap[(_ : Nat)]? = some (Obj.cells #[.int .i64 (kndS k), .string u, .string ⟨#[]⟩, .int .i64 p.1, .string p.2, .int .i64 0, .string ⟨#[]⟩, .string ⟨#[]⟩, .int .i64 0, .slice none 0 0] 31 (0, 0)) := heap_set_near _ _ _ _ _ _ kz6); (have kz8 : (((((((((u3.setCell ⟨_, 0, none⟩ (.int .i64 (kndS k))).setCell ⟨_, 1, none⟩ (.string u)).setCell ⟨_, 2, none⟩ (.string ⟨#[]⟩)).setCell ⟨_, 3, none⟩ (.int .i64 p.1)).setCell ⟨_, 4, none⟩ (.string p.2)).setCell ⟨_, 5, none⟩ (.int .i64 0)).setCell ⟨_, 6, none⟩ (.string ⟨#[]⟩)).setCell ⟨_, 7, none⟩ (.string ⟨#[]⟩)).setCell ⟨_, 8, none⟩ (.int .i64 0)).heap[(_ : Nat)]? = some (Obj.cells #[.int .i64 (kndS k), .string u, .string ⟨#[]⟩, .int .i64 p.1, .string p.2, .int .i64 0, .string ⟨#[]⟩, .string ⟨#[]⟩, .int .i64 0, .slice none 0 0] 31 (0, 0)) := heap_set_near _ _ _ _ _ _ kz7); (have kz9 : ((((((((((u3.setCell ⟨_, 0, none⟩ (.int .i64 (kndS k))).setCell ⟨_, 1, none⟩ (.string u)).setCell ⟨_, 2, none⟩ (.string ⟨#[]⟩)).setCell ⟨_, 3, none⟩ (.int .i64 p.1)).setCell ⟨_, 4, none⟩ (.string p.2)).setCell ⟨_, 5, none⟩ (.int .i64 0)).setCell ⟨_, 6, none⟩ (.string ⟨#[]⟩)).setCell ⟨_, 7, none⟩ (.string ⟨#[]⟩)).setCell ⟨_, 8, none⟩ (.int .i64 0)).setCell ⟨_, 9, none⟩ (.slice none 0 0)).heap[(_ : Nat)]? = some (Obj.cells #[.int .i64 (kndS k), .string u, .string ⟨#[]⟩, .int .i64 p.1, .string p.2, .int .i64 0, .string ⟨#[]⟩, .string ⟨#[]⟩, .int .i64 0, .slice none 0 0] 31 (0, 0)) := heap_set_near _ _ _ _ _ _ kz8); exact ⟨_, k, u, p.2, p.1, rfl, hk14, hu, hp, hgtC, kz9, ((heap_set_far _ _ _ _ _ (Nat.ne_of_lt hgtC)).trans ((heap_set_far _ _ _ _ _ (Nat.ne_of_lt hgtC)).trans ((heap_set_far _ _ _ _ _ (Nat.ne_of_lt hgtC)).trans ((heap_set_far _ _ _ _ _ (Nat.ne_of_lt hgtC)).trans ((heap_set_far _ _ _ _ _ (Nat.ne_of_lt hgtC)).trans ((heap_set_far _ _ _ _ _ (Nat.ne_of_lt hgtC)).trans ((heap_set_far _ _ _ _ _ (Nat.ne_of_lt hgtC)).trans ((heap_set_far _ _ _ _ _ (Nat.ne_of_lt hgtC)).trans ((heap_set_far _ _ _ _ _ (Nat.ne_of_lt hgtC)).trans ((heap_set_far _ _ _ _ _ (Nat.ne_of_lt hgtC)).trans kr3)))))))))), ((((((((((hS3.set (Ne.symm hneC) (Nat.le_trans hw0W (Nat.le_of_lt hgtC)) _).set (Ne.symm hneC) (Nat.le_trans hw0W (Nat.le_of_lt hgtC)) _).set (Ne.symm hneC) (Nat.le_trans hw0W (Nat.le_of_lt hgtC)) _).set (Ne.symm hneC) (Nat.le_trans hw0W (Nat.le_of_lt hgtC)) _).set (Ne.symm hneC) (Nat.le_trans hw0W (Nat.le_of_lt hgtC)) _).set (Ne.symm hneC) (Nat.le_trans hw0W (Nat.le_of_lt hgtC)) _).set (Ne.symm hneC) (Nat.le_trans hw0W (Nat.le_of_lt hgtC)) _).set (Ne.symm hneC) (Nat.le_trans hw0W (Nat.le_of_lt hgtC)) _).set (Ne.symm hneC) (Nat.le_trans hw0W (Nat.le_of_lt hgtC)) _).set (Ne.symm hneC) (Nat.le_trans hw0W (Nat.le_of_lt hgtC)) _), (grown_setN (grown_setN (grown_setN (grown_setN (grown_setN (grown_setN (grown_setN (grown_setN (grown_setN (grown_setN hq3 (Nat.le_of_lt hgtC) _) (Nat.le_of_lt hgtC) _) (Nat.le_of_lt hgtC) _) (Nat.le_of_lt hgtC) _) (Nat.le_of_lt hgtC) _) (Nat.le_of_lt hgtC) _) (Nat.le_of_lt hgtC) _) (Nat.le_of_lt hgtC) _) (Nat.le_of_lt hgtC) _) (Nat.le_of_lt hgtC) _)⟩)
            exact AllReadyH.nil
          exact AllReadyH.nil
        exact AllReadyH.nil
      refine AllReadyH.cons (o := { dst := some 5, op := Go.Op.alloc 31, type := 0, pos := "make.go:120", after := #[], guard := none }) rfl (fun K hK => ?_) ?_
      · go_simp
        refine hK.out _ _ ?_ (fun hHeld2 => ?_)
        · try dsimp only
          try exact trivial
        clear hK K hHeld1
        try simp only [Act.put, List.setIfInBounds_toArray, List.set_cons_zero, List.set_cons_succ]
        refine wpAnyH_ready (rs := [5]) (by kernel_rfl) (by simp) ?_
        refine AllReadyH.cons (o := { dst := some 11, op := Go.Op.call { callee := Go.Callee.value (Go.Operand.func 33), args := #[Go.Operand.tmp 10], argTypes := #[25] }, type := 9, pos := "make.go:120", after := #[{ on := 4, ground := Go.Ground.data }, { on := 2, ground := Go.Ground.chain }], guard := none }) rfl (fun K hK => ?_) ?_
        · go_simp
          (go_at_call 33; ((with_reducible refine (user_any w0 g A n c zs _ ?_).mono ?_); (focus ((focus (repeat' first | with_reducible assumption | (with_reducible refine SG.drew ?_) | (with_reducible refine SG.alloc ?_ _) | (with_reducible refine SG.set ?_ ?_ ?_ _) | omega)); done)); rintro e u2 ⟨u, rfl, ⟨hu, hu3⟩, hS2, hg2⟩; refine heap_grown_do (q := W.heap.size) (x := .cells #[.int .i64 0, .string ⟨#[]⟩, .string ⟨#[]⟩, .int .i64 0, .string ⟨#[]⟩, .int .i64 0, .string ⟨#[]⟩, .string ⟨#[]⟩, .int .i64 0, .slice none 0 0] 31 (0, 0)) hg2 hn3.symm ?_ ?_; (focus ((focus (repeat' first | with_reducible assumption | (with_reducible refine heap_drew ?_) | (with_reducible refine heap_drewN ?_) | (with_reducible refine heap_new ?_; focus (first | rfl | omega | (simp; done))) | (with_reducible refine heap_old ?_) | (with_reducible apply heap_near') | ((with_reducible show Array.setIfInBounds _ _ _ = _); rfl) | (with_reducible refine heap_far ?_ ?_; focus (first | omega | (simp; omega) | (simp; done))) | (with_reducible apply heap_grown; with_reducible assumption; (focus (first | omega | (simp; omega)))) | (with_reducible apply heap_call; with_reducible assumption))); done)); intro kr2; have hz2 := Blk.lt kr2; refine grown_do (w := W) hg2 ?_ ?_; (focus ((focus (repeat' first | with_reducible assumption | (with_reducible refine grown_drewX ?_) | (with_reducible refine grown_allocX ?_ _) | (with_reducible refine grown_setN ?_ ?_ _) | with_reducible exact World.grownBy.refl _ _ | omega)); done)); intro hq2; (have hx2 := Nat.ne_of_gt (Nat.lt_trans hgl hz2)); (first | (refine blk_gr hg2 hneA hgtA khA ?_; intro kcB kfB kzB khB hneB hgtB) | (refine blk_gr hg2 hx1 hz1 (heap_new rfl) ?_; intro kcB kfB kzB khB hneB hgtB) | skip)))
          try go_wp2_with fail
          refine hK.out _ _ ?_ (fun hHeld3 => ?_)
          · try dsimp only
            try exact trivial
          clear hK K hHeld2
          try simp only [Act.put, List.setIfInBounds_toArray, List.set_cons_zero, List.set_cons_succ]
          refine wpAnyH_ready (rs := [7]) (by kernel_rfl) (by simp) ?_
          refine AllReadyH.cons (o := { dst := some 13, op := Go.Op.call { callee := Go.Callee.value (Go.Operand.func 34), args := #[Go.Operand.tmp 12], argTypes := #[25] }, type := 28, pos := "make.go:120", after := #[{ on := 6, ground := Go.Ground.data }, { on := 5, ground := Go.Ground.chain }], guard := none }) rfl (fun K hK => ?_) ?_
          · go_simp
            (go_at_call 34; ((with_reducible refine (title_mk w0 g A n c zs _ ?_).mono ?_); (focus ((focus (repeat' first | with_reducible assumption | (with_reducible refine SG.drew ?_) | (with_reducible refine SG.alloc ?_ _) | (with_reducible refine SG.set ?_ ?_ ?_ _) | omega)); done)); rintro e u3 ⟨p, rfl, hp, hS3, hg3⟩; refine heap_grown_do (q := W.heap.size) (x := .cells #[.int .i64 0, .string ⟨#[]⟩, .string ⟨#[]⟩, .int .i64 0, .string ⟨#[]⟩, .int .i64 0, .string ⟨#[]⟩, .string ⟨#[]⟩, .int .i64 0, .slice none 0 0] 31 (0, 0)) hg3 hn3.symm ?_ ?_; (focus ((focus (repeat' first | with_reducible assumption | (with_reducible refine heap_drew ?_) | (with_reducible refine heap_drewN ?_) | (with_reducible refine heap_new ?_; focus (first | rfl | omega | (simp; done))) | (with_reducible refine heap_old ?_) | (with_reducible apply heap_near') | ((with_reducible show Array.setIfInBounds _ _ _ = _); rfl) | (with_reducible refine heap_far ?_ ?_; focus (first | omega | (simp; omega) | (simp; done))) | (with_reducible apply heap_grown; with_reducible assumption; (focus (first | omega | (simp; omega)))) | (with_reducible apply heap_call; with_reducible assumption))); done)); intro kr3; have hz3 := Blk.lt kr3; refine grown_do (w := W) hg3 ?_ ?_; (focus ((focus (repeat' first | with_reducible assumption | (with_reducible refine grown_drewX ?_) | (with_reducible refine grown_allocX ?_ _) | (with_reducible refine grown_setN ?_ ?_ _) | with_reducible exact World.grownBy.refl _ _ | omega)); done)); intro hq3; (first | (refine blk_gr hg3 hneB hgtB khB ?_; intro kcC kfC kzC khC hneC hgtC) | (refine blk_gr hg3 hx2 hz2 (heap_new rfl) ?_; intro kcC kfC kzC khC hneC hgtC) | skip)))
            try go_wp2_with fail
            refine hK.out _ _ ?_ (fun hHeld4 => ?_)
            · try dsimp only
              try exact trivial
            clear hK K hHeld3
            try simp only [Act.put, List.setIfInBounds_toArray, List.set_cons_zero, List.set_cons_succ]
            refine wpAnyH_take (i := 8) (oi := { dst := some 14, op := Go.Op.build 31 #[(0, Go.Operand.tmp 9), (1, Go.Operand.tmp 11), (3, Go.Operand.tmp 13)], type := 31, pos := "make.go:120", after := #[{ on := 3, ground := Go.Ground.data }, { on := 5, ground := Go.Ground.data }, { on := 7, ground := Go.Ground.data }], guard := none }) (v := .agg #[.int .i64 (kndS k), .string u, .string ⟨#[]⟩, .int .i64 p.1, .string p.2, .int .i64 0, .string ⟨#[]⟩, .string ⟨#[]⟩, .int .i64 0, .slice none 0 0]) rfl (by kernel_rfl) (by kernel_rfl) (by kernel_rfl) (fun _ _ _ h => h) (Or.inl ⟨by rfl, ?_⟩) (by assumption) ?_
            · (intro W hSw; (try dsimp only at hSw); go_simp; try with_reducible rfl)
            try simp only [Act.put, List.setIfInBounds_toArray, List.set_cons_zero, List.set_cons_succ]
            refine wpAnyH_ready (rs := [10]) (by kernel_rfl) (by simp) ?_
            refine AllReadyH.cons (o := { dst := none, op := Go.Op.store 31 (Go.Operand.tmp 5) (Go.Operand.tmp 14), type := 0, pos := "make.go:120", after := #[{ on := 9, ground := Go.Ground.data }, { on := 8, ground := Go.Ground.data }, { on := 7, ground := Go.Ground.chain }, { on := 0, ground := Go.Ground.phase }, { on := 1, ground := Go.Ground.phase }, { on := 2, ground := Go.Ground.phase }, { on := 3, ground := Go.Ground.phase }, { on := 4, ground := Go.Ground.phase }, { on := 5, ground := Go.Ground.phase }, { on := 6, ground := Go.Ground.phase }, { on := 7, ground := Go.Ground.phase }, { on := 8, ground := Go.Ground.phase }, { on := 9, ground := Go.Ground.phase }], guard := none }) rfl (fun K hK => ?_) ?_
            · go_simp
              refine hK.out _ _ ?_ (fun hHeld5 => ?_)
              · try dsimp only
                try exact trivial
              clear hK K hHeld4
              try simp only [Act.put, List.setIfInBounds_toArray, List.set_cons_zero, List.set_cons_succ]
              refine wpAnyH_done (by kernel_rfl) ?_ _
              go_wp2_with fail
              go_meet
              have hl3 := fun o : Obj => ((Below.refl _ _).alloc (Nat.le_refl _) o : Below u3.heap.size u3 (u3.alloc o))
              first
                | (with_reducible refine ⟨_, k, u, p.2, p.1, rfl, hk14, hu, hp, hz3, heap_new rfl, heap_call (hl3 _) kr3, hS3.alloc _, grown_allocX hq3 _⟩)
                | ((have kz0 : (u3.setCell ⟨_, 0, none⟩ (.int .i64 (kndS k))).heap[(_ : Nat)]? = some (Obj.cells #[.int .i64 (kndS k), .string ⟨#[]⟩, .string ⟨#[]⟩, .int .i64 0, .string ⟨#[]⟩, .int .i64 0, .string ⟨#[]⟩, .string ⟨#[]⟩, .int .i64 0, .slice none 0 0] 31 (0, 0)) := heap_set_near _ _ _ _ _ _ khC); (have kz1 : ((u3.setCell ⟨_, 0, none⟩ (.int .i64 (kndS k))).setCell ⟨_, 1, none⟩ (.string u)).heap[(_ : Nat)]? = some (Obj.cells #[.int .i64 (kndS k), .string u, .string ⟨#[]⟩, .int .i64 0, .string ⟨#[]⟩, .int .i64 0, .string ⟨#[]⟩, .string ⟨#[]⟩, .int .i64 0, .slice none 0 0] 31 (0, 0)) := heap_set_near _ _ _ _ _ _ kz0); (have kz2 : (((u3.setCell ⟨_, 0, none⟩ (.int .i64 (kndS k))).setCell ⟨_, 1, none⟩ (.string u)).setCell ⟨_, 2, none⟩ (.string ⟨#[]⟩)).heap[(_ : Nat)]? = some (Obj.cells #[.int .i64 (kndS k), .string u, .string ⟨#[]⟩, .int .i64 0, .string ⟨#[]⟩, .int .i64 0, .string ⟨#[]⟩, .string ⟨#[]⟩, .int .i64 0, .slice none 0 0] 31 (0, 0)) := heap_set_near _ _ _ _ _ _ kz1); (have kz3 : ((((u3.setCell ⟨_, 0, none⟩ (.int .i64 (kndS k))).setCell ⟨_, 1, none⟩ (.string u)).setCell ⟨_, 2, none⟩ (.string ⟨#[]⟩)).setCell ⟨_, 3, none⟩ (.int .i64 p.1)).heap[(_ : Nat)]? = some (Obj.cells #[.int .i64 (kndS k), .string u, .string ⟨#[]⟩, .int .i64 p.1, .string ⟨#[]⟩, .int .i64 0, .string ⟨#[]⟩, .string ⟨#[]⟩, .int .i64 0, .slice none 0 0] 31 (0, 0)) := heap_set_near _ _ _ _ _ _ kz2); (have kz4 : (((((u3.setCell ⟨_, 0, none⟩ (.int .i64 (kndS k))).setCell ⟨_, 1, none⟩ (.string u)).setCell ⟨_, 2, none⟩ (.string ⟨#[]⟩)).setCell ⟨_, 3, none⟩ (.int .i64 p.1)).setCell ⟨_, 4, none⟩ (.string p.2)).heap[(_ : Nat)]? = some (Obj.cells #[.int .i64 (kndS k), .string u, .string ⟨#[]⟩, .int .i64 p.1, .string p.2, .int .i64 0, .string ⟨#[]⟩, .string ⟨#[]⟩, .int .i64 0, .slice none 0 0] 31 (0, 0)) := heap_set_near _ _ _ _ _ _ kz3); (have kz5 : ((((((u3.setCell ⟨_, 0, none⟩ (.int .i64 (kndS k))).setCell ⟨_, 1, none⟩ (.string u)).setCell ⟨_, 2, none⟩ (.string ⟨#[]⟩)).setCell ⟨_, 3, none⟩ (.int .i64 p.1)).setCell ⟨_, 4, none⟩ (.string p.2)).setCell ⟨_, 5, none⟩ (.int .i64 0)).heap[(_ : Nat)]? = some (Obj.cells #[.int .i64 (kndS k), .string u, .string ⟨#[]⟩, .int .i64 p.1, .string p.2, .int .i64 0, .string ⟨#[]⟩, .string ⟨#[]⟩, .int .i64 0, .slice none 0 0] 31 (0, 0)) := heap_set_near _ _ _ _ _ _ kz4); (have kz6 : (((((((u3.setCell ⟨_, 0, none⟩ (.int .i64 (kndS k))).setCell ⟨_, 1, none⟩ (.string u)).setCell ⟨_, 2, none⟩ (.string ⟨#[]⟩)).setCell ⟨_, 3, none⟩ (.int .i64 p.1)).setCell ⟨_, 4, none⟩ (.string p.2)).setCell ⟨_, 5, none⟩ (.int .i64 0)).setCell ⟨_, 6, none⟩ (.string ⟨#[]⟩)).heap[(_ : Nat)]? = some (Obj.cells #[.int .i64 (kndS k), .string u, .string ⟨#[]⟩, .int .i64 p.1, .string p.2, .int .i64 0, .string ⟨#[]⟩, .string ⟨#[]⟩, .int .i64 0, .slice none 0 0] 31 (0, 0)) := heap_set_near _ _ _ _ _ _ kz5); (have kz7 : ((((((((u3.setCell ⟨_, 0, none⟩ (.int .i64 (kndS k))).setCell ⟨_, 1, none⟩ (.string u)).setCell ⟨_, 2, none⟩ (.string ⟨#[]⟩)).setCell ⟨_, 3, none⟩ (.int .i64 p.1)).setCell ⟨_, 4, none⟩ (.string p.2)).setCell ⟨_, 5, none⟩ (.int .i64 0)).setCell ⟨_, 6, none⟩ (.string ⟨#[]⟩)).setCell ⟨_, 7, none⟩ (.string ⟨#[]⟩)).heap[(_ : Nat)]? = some (Obj.cells #[.int .i64 (kndS k), .string u, .string ⟨#[]⟩, .int .i64 p.1, .string p.2, .int .i64 0, .string ⟨#[]⟩, .string ⟨#[]⟩, .int .i64 0, .slice none 0 0] 31 (0, 0)) := heap_set_near _ _ _ _ _ _ kz6); (have kz8 : (((((((((u3.setCell ⟨_, 0, none⟩ (.int .i64 (kndS k))).setCell ⟨_, 1, none⟩ (.string u)).setCell ⟨_, 2, none⟩ (.string ⟨#[]⟩)).setCell ⟨_, 3, none⟩ (.int .i64 p.1)).setCell ⟨_, 4, none⟩ (.string p.2)).setCell ⟨_, 5, none⟩ (.int .i64 0)).setCell ⟨_, 6, none⟩ (.string ⟨#[]⟩)).setCell ⟨_, 7, none⟩ (.string ⟨#[]⟩)).setCell ⟨_, 8, none⟩ (.int .i64 0)).heap[(_ : Nat)]? = some (Obj.cells #[.int .i64 (kndS k), .string u, .string ⟨#[]⟩, .int .i64 p.1, .string p.2, .int .i64 0, .string ⟨#[]⟩, .string ⟨#[]⟩, .int .i64 0, .slice none 0 0] 31 (0, 0)) := heap_set_near _ _ _ _ _ _ kz7); (have kz9 : ((((((((((u3.setCell ⟨_, 0, none⟩ (.int .i64 (kndS k))).setCell ⟨_, 1, none⟩ (.string u)).setCell ⟨_, 2, none⟩ (.string ⟨#[]⟩)).setCell ⟨_, 3, none⟩ (.int .i64 p.1)).setCell ⟨_, 4, none⟩ (.string p.2)).setCell ⟨_, 5, none⟩ (.int .i64 0)).setCell ⟨_, 6, none⟩ (.string ⟨#[]⟩)).setCell ⟨_, 7, none⟩ (.string ⟨#[]⟩)).setCell ⟨_, 8, none⟩ (.int .i64 0)).setCell ⟨_, 9, none⟩ (.slice none 0 0)).heap[(_ : Nat)]? = some (Obj.cells #[.int .i64 (kndS k), .string u, .string ⟨#[]⟩, .int .i64 p.1, .string p.2, .int .i64 0, .string ⟨#[]⟩, .string ⟨#[]⟩, .int .i64 0, .slice none 0 0] 31 (0, 0)) := heap_set_near _ _ _ _ _ _ kz8); exact ⟨_, k, u, p.2, p.1, rfl, hk14, hu, hp, hgtC, kz9, ((heap_set_far _ _ _ _ _ (Nat.ne_of_lt hgtC)).trans ((heap_set_far _ _ _ _ _ (Nat.ne_of_lt hgtC)).trans ((heap_set_far _ _ _ _ _ (Nat.ne_of_lt hgtC)).trans ((heap_set_far _ _ _ _ _ (Nat.ne_of_lt hgtC)).trans ((heap_set_far _ _ _ _ _ (Nat.ne_of_lt hgtC)).trans ((heap_set_far _ _ _ _ _ (Nat.ne_of_lt hgtC)).trans ((heap_set_far _ _ _ _ _ (Nat.ne_of_lt hgtC)).trans ((heap_set_far _ _ _ _ _ (Nat.ne_of_lt hgtC)).trans ((heap_set_far _ _ _ _ _ (Nat.ne_of_lt hgtC)).trans ((heap_set_far _ _ _ _ _ (Nat.ne_of_lt hgtC)).trans kr3)))))))))), ((((((((((hS3.set (Ne.symm hneC) (Nat.le_trans hw0W (Nat.le_of_lt hgtC)) _).set (Ne.symm hneC) (Nat.le_trans hw0W (Nat.le_of_lt hgtC)) _).set (Ne.symm hneC) (Nat.le_trans hw0W (Nat.le_of_lt hgtC)) _).set (Ne.symm hneC) (Nat.le_trans hw0W (Nat.le_of_lt hgtC)) _).set (Ne.symm hneC) (Nat.le_trans hw0W (Nat.le_of_lt hgtC)) _).set (Ne.symm hneC) (Nat.le_trans hw0W (Nat.le_of_lt hgtC)) _).set (Ne.symm hneC) (Nat.le_trans hw0W (Nat.le_of_lt hgtC)) _).set (Ne.symm hneC) (Nat.le_trans hw0W (Nat.le_of_lt hgtC)) _).set (Ne.symm hneC) (Nat.le_trans hw0W (Nat.le_of_lt hgtC)) _).set (Ne.symm hneC) (Nat.le_trans hw0W (Nat.le_of_lt hgtC)) _), (grown_setN (grown_setN (grown_setN (grown_setN (grown_setN (grown_setN (grown_setN (grown_setN (grown_setN (grown_setN hq3 (Nat.le_of_lt hgtC) _) (Nat.le_of_lt hgtC) _) (Nat.le_of_lt hgtC) _) (Nat.le_of_lt hgtC) _) (Nat.le_of_lt hgtC) _) (Nat.le_of_lt hgtC) _) (Nat.le_of_lt hgtC) _) (Nat.le_of_lt hgtC) _) (Nat.le_of_lt hgtC) _) (Nat.le_of_lt hgtC) _)⟩)
            exact AllReadyH.nil
          exact AllReadyH.nil
        exact AllReadyH.nil
      exact AllReadyH.nil
    refine AllReadyH.cons (o := { dst := some 5, op := Go.Op.alloc 31, type := 0, pos := "make.go:120", after := #[], guard := none }) rfl (fun K hK => ?_) ?_
    · go_simp
      refine hK.out _ _ ?_ (fun hHeld1 => ?_)
      · try dsimp only
        try exact trivial
      clear hK K hHeld0
      try simp only [Act.put, List.setIfInBounds_toArray, List.set_cons_zero, List.set_cons_succ]
      refine wpAnyH_ready (rs := [2]) (by kernel_rfl) (by simp) ?_
      refine AllReadyH.cons (o := { dst := some 8, op := Go.Op.call { callee := Go.Callee.value (Go.Operand.func 26), args := #[Go.Operand.tmp 7, Go.Operand.const (Go.Value.int Go.IntKind.i64 14)], argTypes := #[25, 3] }, type := 3, pos := "make.go:120", after := #[{ on := 1, ground := Go.Ground.data }], guard := none }) rfl (fun K hK => ?_) ?_
      · go_simp
        (go_at_call 26; ((with_reducible refine (SG.nxt2 (w0 := w0) (A := A) (n := n) (c := c) (zs := zs) ?_ 14 ?_ ?_).mono ?_); (focus ((focus (repeat' first | with_reducible assumption | (with_reducible refine SG.drew ?_) | (with_reducible refine SG.alloc ?_ _) | (with_reducible refine SG.set ?_ ?_ ?_ _) | omega)); done)); (focus omega); (focus omega); rintro e u1 ⟨k, rfl, k0, k1, hS1, hg1⟩; refine heap_grown_do (q := W.heap.size) (x := .cells #[.int .i64 0, .string ⟨#[]⟩, .string ⟨#[]⟩, .int .i64 0, .string ⟨#[]⟩, .int .i64 0, .string ⟨#[]⟩, .string ⟨#[]⟩, .int .i64 0, .slice none 0 0] 31 (0, 0)) hg1 hn3.symm ?_ ?_; (focus ((focus (repeat' first | with_reducible assumption | (with_reducible refine heap_drew ?_) | (with_reducible refine heap_drewN ?_) | (with_reducible refine heap_new ?_; focus (first | rfl | omega | (simp; done))) | (with_reducible refine heap_old ?_) | (with_reducible apply heap_near') | ((with_reducible show Array.setIfInBounds _ _ _ = _); rfl) | (with_reducible refine heap_far ?_ ?_; focus (first | omega | (simp; omega) | (simp; done))) | (with_reducible apply heap_grown; with_reducible assumption; (focus (first | omega | (simp; omega)))) | (with_reducible apply heap_call; with_reducible assumption))); done)); intro kr1; have hz1 := Blk.lt kr1; refine grown_do (w := W) hg1 ?_ ?_; (focus ((focus (repeat' first | with_reducible assumption | (with_reducible refine grown_drewX ?_) | (with_reducible refine grown_allocX ?_ _) | (with_reducible refine grown_setN ?_ ?_ _) | with_reducible exact World.grownBy.refl _ _ | omega)); done)); intro hq1; obtain ⟨k, rfl⟩ := Int.eq_ofNat_of_zero_le k0; (have hk14 : k < 14 := by omega); (have hix := knd_idx hk14); (have hx1 := Nat.ne_of_gt (Nat.lt_trans hgl hz1)); (first | (refine blk_gr hg1 hx0 hz0 (heap_new rfl) ?_; intro kcA kfA kzA khA hneA hgtA) | skip)))
        try go_wp2_with fail
        refine hK.out _ _ ?_ (fun hHeld2 => ?_)
        · try dsimp only
          try exact trivial
        clear hK K hHeld1
        try simp only [Act.put, List.setIfInBounds_toArray, List.set_cons_zero, List.set_cons_succ]
        refine wpAnyH_take (i := 3) (oi := { dst := some 9, op := Go.Op.index 76 (Go.Operand.tmp 6) (Go.Operand.tmp 8), type := 3, pos := "make.go:120", after := #[{ on := 0, ground := Go.Ground.data }, { on := 2, ground := Go.Ground.data }], guard := none }) (v := .int .i64 (kndS k)) rfl (by kernel_rfl) (by kernel_rfl) (by kernel_rfl) (fun _ _ _ h => h) (Or.inl ⟨by rfl, ?_⟩) (by assumption) ?_
        · (intro W hSw; (try dsimp only at hSw); go_simp; try with_reducible rfl)
        try simp only [Act.put, List.setIfInBounds_toArray, List.set_cons_zero, List.set_cons_succ]
        refine wpAnyH_ready (rs := [5]) (by kernel_rfl) (by simp) ?_
        refine AllReadyH.cons (o := { dst := some 11, op := Go.Op.call { callee := Go.Callee.value (Go.Operand.func 33), args := #[Go.Operand.tmp 10], argTypes := #[25] }, type := 9, pos := "make.go:120", after := #[{ on := 4, ground := Go.Ground.data }, { on := 2, ground := Go.Ground.chain }], guard := none }) rfl (fun K hK => ?_) ?_
        · go_simp
          (go_at_call 33; ((with_reducible refine (user_any w0 g A n c zs _ ?_).mono ?_); (focus ((focus (repeat' first | with_reducible assumption | (with_reducible refine SG.drew ?_) | (with_reducible refine SG.alloc ?_ _) | (with_reducible refine SG.set ?_ ?_ ?_ _) | omega)); done)); rintro e u2 ⟨u, rfl, ⟨hu, hu3⟩, hS2, hg2⟩; refine heap_grown_do (q := W.heap.size) (x := .cells #[.int .i64 0, .string ⟨#[]⟩, .string ⟨#[]⟩, .int .i64 0, .string ⟨#[]⟩, .int .i64 0, .string ⟨#[]⟩, .string ⟨#[]⟩, .int .i64 0, .slice none 0 0] 31 (0, 0)) hg2 hn3.symm ?_ ?_; (focus ((focus (repeat' first | with_reducible assumption | (with_reducible refine heap_drew ?_) | (with_reducible refine heap_drewN ?_) | (with_reducible refine heap_new ?_; focus (first | rfl | omega | (simp; done))) | (with_reducible refine heap_old ?_) | (with_reducible apply heap_near') | ((with_reducible show Array.setIfInBounds _ _ _ = _); rfl) | (with_reducible refine heap_far ?_ ?_; focus (first | omega | (simp; omega) | (simp; done))) | (with_reducible apply heap_grown; with_reducible assumption; (focus (first | omega | (simp; omega)))) | (with_reducible apply heap_call; with_reducible assumption))); done)); intro kr2; have hz2 := Blk.lt kr2; refine grown_do (w := W) hg2 ?_ ?_; (focus ((focus (repeat' first | with_reducible assumption | (with_reducible refine grown_drewX ?_) | (with_reducible refine grown_allocX ?_ _) | (with_reducible refine grown_setN ?_ ?_ _) | with_reducible exact World.grownBy.refl _ _ | omega)); done)); intro hq2; (have hx2 := Nat.ne_of_gt (Nat.lt_trans hgl hz2)); (first | (refine blk_gr hg2 hneA hgtA khA ?_; intro kcB kfB kzB khB hneB hgtB) | (refine blk_gr hg2 hx1 hz1 (heap_new rfl) ?_; intro kcB kfB kzB khB hneB hgtB) | skip)))
          try go_wp2_with fail
          refine hK.out _ _ ?_ (fun hHeld3 => ?_)
          · try dsimp only
            try exact trivial
          clear hK K hHeld2
          try simp only [Act.put, List.setIfInBounds_toArray, List.set_cons_zero, List.set_cons_succ]
          refine wpAnyH_ready (rs := [7]) (by kernel_rfl) (by simp) ?_
          refine AllReadyH.cons (o := { dst := some 13, op := Go.Op.call { callee := Go.Callee.value (Go.Operand.func 34), args := #[Go.Operand.tmp 12], argTypes := #[25] }, type := 28, pos := "make.go:120", after := #[{ on := 6, ground := Go.Ground.data }, { on := 5, ground := Go.Ground.chain }], guard := none }) rfl (fun K hK => ?_) ?_
          · go_simp
            (go_at_call 34; ((with_reducible refine (title_mk w0 g A n c zs _ ?_).mono ?_); (focus ((focus (repeat' first | with_reducible assumption | (with_reducible refine SG.drew ?_) | (with_reducible refine SG.alloc ?_ _) | (with_reducible refine SG.set ?_ ?_ ?_ _) | omega)); done)); rintro e u3 ⟨p, rfl, hp, hS3, hg3⟩; refine heap_grown_do (q := W.heap.size) (x := .cells #[.int .i64 0, .string ⟨#[]⟩, .string ⟨#[]⟩, .int .i64 0, .string ⟨#[]⟩, .int .i64 0, .string ⟨#[]⟩, .string ⟨#[]⟩, .int .i64 0, .slice none 0 0] 31 (0, 0)) hg3 hn3.symm ?_ ?_; (focus ((focus (repeat' first | with_reducible assumption | (with_reducible refine heap_drew ?_) | (with_reducible refine heap_drewN ?_) | (with_reducible refine heap_new ?_; focus (first | rfl | omega | (simp; done))) | (with_reducible refine heap_old ?_) | (with_reducible apply heap_near') | ((with_reducible show Array.setIfInBounds _ _ _ = _); rfl) | (with_reducible refine heap_far ?_ ?_; focus (first | omega | (simp; omega) | (simp; done))) | (with_reducible apply heap_grown; with_reducible assumption; (focus (first | omega | (simp; omega)))) | (with_reducible apply heap_call; with_reducible assumption))); done)); intro kr3; have hz3 := Blk.lt kr3; refine grown_do (w := W) hg3 ?_ ?_; (focus ((focus (repeat' first | with_reducible assumption | (with_reducible refine grown_drewX ?_) | (with_reducible refine grown_allocX ?_ _) | (with_reducible refine grown_setN ?_ ?_ _) | with_reducible exact World.grownBy.refl _ _ | omega)); done)); intro hq3; (first | (refine blk_gr hg3 hneB hgtB khB ?_; intro kcC kfC kzC khC hneC hgtC) | (refine blk_gr hg3 hx2 hz2 (heap_new rfl) ?_; intro kcC kfC kzC khC hneC hgtC) | skip)))
            try go_wp2_with fail
            refine hK.out _ _ ?_ (fun hHeld4 => ?_)
            · try dsimp only
              try exact trivial
            clear hK K hHeld3
            try simp only [Act.put, List.setIfInBounds_toArray, List.set_cons_zero, List.set_cons_succ]
            refine wpAnyH_take (i := 8) (oi := { dst := some 14, op := Go.Op.build 31 #[(0, Go.Operand.tmp 9), (1, Go.Operand.tmp 11), (3, Go.Operand.tmp 13)], type := 31, pos := "make.go:120", after := #[{ on := 3, ground := Go.Ground.data }, { on := 5, ground := Go.Ground.data }, { on := 7, ground := Go.Ground.data }], guard := none }) (v := .agg #[.int .i64 (kndS k), .string u, .string ⟨#[]⟩, .int .i64 p.1, .string p.2, .int .i64 0, .string ⟨#[]⟩, .string ⟨#[]⟩, .int .i64 0, .slice none 0 0]) rfl (by kernel_rfl) (by kernel_rfl) (by kernel_rfl) (fun _ _ _ h => h) (Or.inl ⟨by rfl, ?_⟩) (by assumption) ?_
            · (intro W hSw; (try dsimp only at hSw); go_simp; try with_reducible rfl)
            try simp only [Act.put, List.setIfInBounds_toArray, List.set_cons_zero, List.set_cons_succ]
            refine wpAnyH_ready (rs := [10]) (by kernel_rfl) (by simp) ?_
            refine AllReadyH.cons (o := { dst := none, op := Go.Op.store 31 (Go.Operand.tmp 5) (Go.Operand.tmp 14), type := 0, pos := "make.go:120", after := #[{ on := 9, ground := Go.Ground.data }, { on := 8, ground := Go.Ground.data }, { on := 7, ground := Go.Ground.chain }, { on := 0, ground := Go.Ground.phase }, { on := 1, ground := Go.Ground.phase }, { on := 2, ground := Go.Ground.phase }, { on := 3, ground := Go.Ground.phase }, { on := 4, ground := Go.Ground.phase }, { on := 5, ground := Go.Ground.phase }, { on := 6, ground := Go.Ground.phase }, { on := 7, ground := Go.Ground.phase }, { on := 8, ground := Go.Ground.phase }, { on := 9, ground := Go.Ground.phase }], guard := none }) rfl (fun K hK => ?_) ?_
            · go_simp
              refine hK.out _ _ ?_ (fun hHeld5 => ?_)
              · try dsimp only
                try exact trivial
              clear hK K hHeld4
              try simp only [Act.put, List.setIfInBounds_toArray, List.set_cons_zero, List.set_cons_succ]
              refine wpAnyH_done (by kernel_rfl) ?_ _
              go_wp2_with fail
              go_meet
              have hl3 := fun o : Obj => ((Below.refl _ _).alloc (Nat.le_refl _) o : Below u3.heap.size u3 (u3.alloc o))
              first
                | (with_reducible refine ⟨_, k, u, p.2, p.1, rfl, hk14, hu, hp, hz3, heap_new rfl, heap_call (hl3 _) kr3, hS3.alloc _, grown_allocX hq3 _⟩)
                | ((have kz0 : (u3.setCell ⟨_, 0, none⟩ (.int .i64 (kndS k))).heap[(_ : Nat)]? = some (Obj.cells #[.int .i64 (kndS k), .string ⟨#[]⟩, .string ⟨#[]⟩, .int .i64 0, .string ⟨#[]⟩, .int .i64 0, .string ⟨#[]⟩, .string ⟨#[]⟩, .int .i64 0, .slice none 0 0] 31 (0, 0)) := heap_set_near _ _ _ _ _ _ khC); (have kz1 : ((u3.setCell ⟨_, 0, none⟩ (.int .i64 (kndS k))).setCell ⟨_, 1, none⟩ (.string u)).heap[(_ : Nat)]? = some (Obj.cells #[.int .i64 (kndS k), .string u, .string ⟨#[]⟩, .int .i64 0, .string ⟨#[]⟩, .int .i64 0, .string ⟨#[]⟩, .string ⟨#[]⟩, .int .i64 0, .slice none 0 0] 31 (0, 0)) := heap_set_near _ _ _ _ _ _ kz0); (have kz2 : (((u3.setCell ⟨_, 0, none⟩ (.int .i64 (kndS k))).setCell ⟨_, 1, none⟩ (.string u)).setCell ⟨_, 2, none⟩ (.string ⟨#[]⟩)).heap[(_ : Nat)]? = some (Obj.cells #[.int .i64 (kndS k), .string u, .string ⟨#[]⟩, .int .i64 0, .string ⟨#[]⟩, .int .i64 0, .string ⟨#[]⟩, .string ⟨#[]⟩, .int .i64 0, .slice none 0 0] 31 (0, 0)) := heap_set_near _ _ _ _ _ _ kz1); (have kz3 : ((((u3.setCell ⟨_, 0, none⟩ (.int .i64 (kndS k))).setCell ⟨_, 1, none⟩ (.string u)).setCell ⟨_, 2, none⟩ (.string ⟨#[]⟩)).setCell ⟨_, 3, none⟩ (.int .i64 p.1)).heap[(_ : Nat)]? = some (Obj.cells #[.int .i64 (kndS k), .string u, .string ⟨#[]⟩, .int .i64 p.1, .string ⟨#[]⟩, .int .i64 0, .string ⟨#[]⟩, .string ⟨#[]⟩, .int .i64 0, .slice none 0 0] 31 (0, 0)) := heap_set_near _ _ _ _ _ _ kz2); (have kz4 : (((((u3.setCell ⟨_, 0, none⟩ (.int .i64 (kndS k))).setCell ⟨_, 1, none⟩ (.string u)).setCell ⟨_, 2, none⟩ (.string ⟨#[]⟩)).setCell ⟨_, 3, none⟩ (.int .i64 p.1)).setCell ⟨_, 4, none⟩ (.string p.2)).heap[(_ : Nat)]? = some (Obj.cells #[.int .i64 (kndS k), .string u, .string ⟨#[]⟩, .int .i64 p.1, .string p.2, .int .i64 0, .string ⟨#[]⟩, .string ⟨#[]⟩, .int .i64 0, .slice none 0 0] 31 (0, 0)) := heap_set_near _ _ _ _ _ _ kz3); (have kz5 : ((((((u3.setCell ⟨_, 0, none⟩ (.int .i64 (kndS k))).setCell ⟨_, 1, none⟩ (.string u)).setCell ⟨_, 2, none⟩ (.string ⟨#[]⟩)).setCell ⟨_, 3, none⟩ (.int .i64 p.1)).setCell ⟨_, 4, none⟩ (.string p.2)).setCell ⟨_, 5, none⟩ (.int .i64 0)).heap[(_ : Nat)]? = some (Obj.cells #[.int .i64 (kndS k), .string u, .string ⟨#[]⟩, .int .i64 p.1, .string p.2, .int .i64 0, .string ⟨#[]⟩, .string ⟨#[]⟩, .int .i64 0, .slice none 0 0] 31 (0, 0)) := heap_set_near _ _ _ _ _ _ kz4); (have kz6 : (((((((u3.setCell ⟨_, 0, none⟩ (.int .i64 (kndS k))).setCell ⟨_, 1, none⟩ (.string u)).setCell ⟨_, 2, none⟩ (.string ⟨#[]⟩)).setCell ⟨_, 3, none⟩ (.int .i64 p.1)).setCell ⟨_, 4, none⟩ (.string p.2)).setCell ⟨_, 5, none⟩ (.int .i64 0)).setCell ⟨_, 6, none⟩ (.string ⟨#[]⟩)).heap[(_ : Nat)]? = some (Obj.cells #[.int .i64 (kndS k), .string u, .string ⟨#[]⟩, .int .i64 p.1, .string p.2, .int .i64 0, .string ⟨#[]⟩, .string ⟨#[]⟩, .int .i64 0, .slice none 0 0] 31 (0, 0)) := heap_set_near _ _ _ _ _ _ kz5); (have kz7 : ((((((((u3.setCell ⟨_, 0, none⟩ (.int .i64 (kndS k))).setCell ⟨_, 1, none⟩ (.string u)).setCell ⟨_, 2, none⟩ (.string ⟨#[]⟩)).setCell ⟨_, 3, none⟩ (.int .i64 p.1)).setCell ⟨_, 4, none⟩ (.string p.2)).setCell ⟨_, 5, none⟩ (.int .i64 0)).setCell ⟨_, 6, none⟩ (.string ⟨#[]⟩)).setCell ⟨_, 7, none⟩ (.string ⟨#[]⟩)).heap[(_ : Nat)]? = some (Obj.cells #[.int .i64 (kndS k), .string u, .string ⟨#[]⟩, .int .i64 p.1, .string p.2, .int .i64 0, .string ⟨#[]⟩, .string ⟨#[]⟩, .int .i64 0, .slice none 0 0] 31 (0, 0)) := heap_set_near _ _ _ _ _ _ kz6); (have kz8 : (((((((((u3.setCell ⟨_, 0, none⟩ (.int .i64 (kndS k))).setCell ⟨_, 1, none⟩ (.string u)).setCell ⟨_, 2, none⟩ (.string ⟨#[]⟩)).setCell ⟨_, 3, none⟩ (.int .i64 p.1)).setCell ⟨_, 4, none⟩ (.string p.2)).setCell ⟨_, 5, none⟩ (.int .i64 0)).setCell ⟨_, 6, none⟩ (.string ⟨#[]⟩)).setCell ⟨_, 7, none⟩ (.string ⟨#[]⟩)).setCell ⟨_, 8, none⟩ (.int .i64 0)).heap[(_ : Nat)]? = some (Obj.cells #[.int .i64 (kndS k), .string u, .string ⟨#[]⟩, .int .i64 p.1, .string p.2, .int .i64 0, .string ⟨#[]⟩, .string ⟨#[]⟩, .int .i64 0, .slice none 0 0] 31 (0, 0)) := heap_set_near _ _ _ _ _ _ kz7); (have kz9 : ((((((((((u3.setCell ⟨_, 0, none⟩ (.int .i64 (kndS k))).setCell ⟨_, 1, none⟩ (.string u)).setCell ⟨_, 2, none⟩ (.string ⟨#[]⟩)).setCell ⟨_, 3, none⟩ (.int .i64 p.1)).setCell ⟨_, 4, none⟩ (.string p.2)).setCell ⟨_, 5, none⟩ (.int .i64 0)).setCell ⟨_, 6, none⟩ (.string ⟨#[]⟩)).setCell ⟨_, 7, none⟩ (.string ⟨#[]⟩)).setCell ⟨_, 8, none⟩ (.int .i64 0)).setCell ⟨_, 9, none⟩ (.slice none 0 0)).heap[(_ : Nat)]? = some (Obj.cells #[.int .i64 (kndS k), .string u, .string ⟨#[]⟩, .int .i64 p.1, .string p.2, .int .i64 0, .string ⟨#[]⟩, .string ⟨#[]⟩, .int .i64 0, .slice none 0 0] 31 (0, 0)) := heap_set_near _ _ _ _ _ _ kz8); exact ⟨_, k, u, p.2, p.1, rfl, hk14, hu, hp, hgtC, kz9, ((heap_set_far _ _ _ _ _ (Nat.ne_of_lt hgtC)).trans ((heap_set_far _ _ _ _ _ (Nat.ne_of_lt hgtC)).trans ((heap_set_far _ _ _ _ _ (Nat.ne_of_lt hgtC)).trans ((heap_set_far _ _ _ _ _ (Nat.ne_of_lt hgtC)).trans ((heap_set_far _ _ _ _ _ (Nat.ne_of_lt hgtC)).trans ((heap_set_far _ _ _ _ _ (Nat.ne_of_lt hgtC)).trans ((heap_set_far _ _ _ _ _ (Nat.ne_of_lt hgtC)).trans ((heap_set_far _ _ _ _ _ (Nat.ne_of_lt hgtC)).trans ((heap_set_far _ _ _ _ _ (Nat.ne_of_lt hgtC)).trans ((heap_set_far _ _ _ _ _ (Nat.ne_of_lt hgtC)).trans kr3)))))))))), ((((((((((hS3.set (Ne.symm hneC) (Nat.le_trans hw0W (Nat.le_of_lt hgtC)) _).set (Ne.symm hneC) (Nat.le_trans hw0W (Nat.le_of_lt hgtC)) _).set (Ne.symm hneC) (Nat.le_trans hw0W (Nat.le_of_lt hgtC)) _).set (Ne.symm hneC) (Nat.le_trans hw0W (Nat.le_of_lt hgtC)) _).set (Ne.symm hneC) (Nat.le_trans hw0W (Nat.le_of_lt hgtC)) _).set (Ne.symm hneC) (Nat.le_trans hw0W (Nat.le_of_lt hgtC)) _).set (Ne.symm hneC) (Nat.le_trans hw0W (Nat.le_of_lt hgtC)) _).set (Ne.symm hneC) (Nat.le_trans hw0W (Nat.le_of_lt hgtC)) _).set (Ne.symm hneC) (Nat.le_trans hw0W (Nat.le_of_lt hgtC)) _).set (Ne.symm hneC) (Nat.le_trans hw0W (Nat.le_of_lt hgtC)) _), (grown_setN (grown_setN (grown_setN (grown_setN (grown_setN (grown_setN (grown_setN (grown_setN (grown_setN (grown_setN hq3 (Nat.le_of_lt hgtC) _) (Nat.le_of_lt hgtC) _) (Nat.le_of_lt hgtC) _) (Nat.le_of_lt hgtC) _) (Nat.le_of_lt hgtC) _) (Nat.le_of_lt hgtC) _) (Nat.le_of_lt hgtC) _) (Nat.le_of_lt hgtC) _) (Nat.le_of_lt hgtC) _) (Nat.le_of_lt hgtC) _)⟩)
            exact AllReadyH.nil
          exact AllReadyH.nil
        exact AllReadyH.nil
      exact AllReadyH.nil
    exact AllReadyH.nil
  obtain ⟨bc, k, u, tn, ts, rfl, hk, hu, ht, hbc, kb1, kr1, hS1, hG1⟩ := hcut
  obtain ⟨y1, rfl⟩ : ∃ q, q = wc := ⟨_, rfl⟩
  have HU := Lib.hid hu
  have HT := Lib.hid ht
  have HKK := Lib.hid (knd_ok hk)
  generalize kndS k = kd at *
  have hn1 : g ≠ bc := by omega
  have hn5 : bc ≠ W.heap.size := by omega
  have hbs : w0.heap.size ≤ bc ∧ w0.heap.size ≤ W.heap.size ∧ W.heap.size ≤ bc := by omega
  clear hS0 kr0 hq0 hu ht hk
  have HKX : Hid (kd = 1 ∨ kd = 2 ∨ kd = 3 ∨ kd = 4 ∨ kd = 5 ∨ kd = 6 ∨ kd = 7 ∨ kd = 8 ∨ kd = 9 ∨ kd = 10) := Lib.hid (by have := HKK.out; omega)
  rcases HKX.out with hkd | hkd | hkd | hkd | hkd | hkd | hkd | hkd | hkd | hkd
  · subst hkd
    have kq := Blk.cell kb1
    have kqf := Blk.frozen kb1
    go_wp2_with fail
    go_at_call 35
    refine (note_any w0 g A n c zs y1 hS1).mono ?_
    rintro e p1 ⟨nt, rfl, hnt, hSp, hgp⟩
    have kbp1 := heap_grown hgp hn1.symm kb1
    have krp1 := heap_grown hgp hn3.symm kr1
    have hGp1 := hG1.trans hgp
    have hSp1 := hSp
    clear hgp hSp kb1 kr1 hS1 hG1
    have kq := Blk.cell kbp1
    have kqf := Blk.frozen kbp1
    go_wp2_with fail
    go_at_call 36
    refine (text_mk w0 g A n c zs p1 hSp1).mono ?_
    rintro e p2 ⟨tx, rfl, htx, hSp, hgp⟩
    have kbp2 := heap_grown hgp hn1.symm kbp1
    have krp2 := heap_grown hgp hn3.symm krp1
    have hGp2 := hGp1.trans hgp
    have hSp2 := hSp
    clear hgp hSp kbp1 krp1 hSp1 hGp1
    have kq := Blk.cell kbp2
    have kqf := Blk.frozen kbp2
    have kw2 : (p2.setCell ⟨bc, 2, none⟩ (.string nt)).heap[bc]? = some (.cells #[.int .i64 1, .string u, .string nt, .int .i64 ts, .string tn, .int .i64 0, .string ⟨#[]⟩, .string ⟨#[]⟩, .int .i64 0, .slice none 0 0] 31 (0, 0)) := heap_set_near _ _ _ _ _ _ kbp2
    have kw7 : ((p2.setCell ⟨bc, 2, none⟩ (.string nt)).setCell ⟨bc, 7, none⟩ (.string tx)).heap[bc]? = some (.cells #[.int .i64 1, .string u, .string nt, .int .i64 ts, .string tn, .int .i64 0, .string ⟨#[]⟩, .string tx, .int .i64 0, .slice none 0 0] 31 (0, 0)) := heap_set_near _ _ _ _ _ _ kw2
    have kbs3 : ((p2.setCell ⟨bc, 2, none⟩ (.string nt)).setCell ⟨bc, 7, none⟩ (.string tx)).heap[bc]? = _ := kw7
    have krs3 : ((p2.setCell ⟨bc, 2, none⟩ (.string nt)).setCell ⟨bc, 7, none⟩ (.string tx)).heap[W.heap.size]? = _ := ((heap_set_far _ _ _ _ _ hn5.symm).trans ((heap_set_far _ _ _ _ _ hn5.symm).trans krp2))
    have hSs3 := ((hSp2.set (i := 2) hn1 hbs.1 (.string nt)).set (i := 7) hn1 hbs.1 (.string tx))
    have hGs3 := (grown_setN (i := 7) (grown_setN (i := 2) hGp2 hbs.2.2 (.string nt)) hbs.2.2 (.string tx))
    clear kbp2 krp2 hSp2 hGp2 kw2 kw7
    go_upto_region 6 with fail
    clear kq kqf
    generalize ((p2.setCell ⟨bc, 2, none⟩ (.string nt)).setCell ⟨bc, 7, none⟩ (.string tx)) = y13 at *
    have kq := Blk.cell kbs3
    go_upto_region 20 with fail
    clear kq
    have HSE := Lib.hid hSs3
    have HGE := Lib.hid hGs3
    clear hSs3 hGs3
    have kcb := Blk.cell kbs3
    have kfr := Blk.frozen krs3
    have kcr0 := Blk.cell krs3
    have kcz := Blk.cell (ten_kz krs3 (.int .i64 1) (.string u) (.string nt) (.int .i64 ts) (.string tn) (.int .i64 0) (.string ⟨#[]⟩) (.string tx) (.int .i64 0) (.slice none 0 0))
    have HSF := Lib.hid (SG.ten HSE.out hn3 hbs.2.1 (.int .i64 1) (.string u) (.string nt) (.int .i64 ts) (.string tn) (.int .i64 0) (.string ⟨#[]⟩) (.string tx) (.int .i64 0) (.slice none 0 0))
    have HGF := Lib.hid (grown_ten HGE.out (Nat.le_refl _) (.int .i64 1) (.string u) (.string nt) (.int .i64 ts) (.string tn) (.int .i64 0) (.string ⟨#[]⟩) (.string tx) (.int .i64 0) (.slice none 0 0))
    go_wp2_with fail
    refine bodyPost_ret (v := .agg #[.int .i64 1, .string u, .string nt, .int .i64 ts, .string tn, .int .i64 0, .string ⟨#[]⟩, .string tx, .int .i64 0, .slice none 0 0]) ?_ rfl ⟨⟨1, u, nt, ts, tn, 0, ⟨#[]⟩, tx, 0, []⟩, none, 0, 0, rfl, mc_put HU.out HT.out (by omega) htx, OwR.nil _ _ _ _ _, HSF.out, HGF.out⟩
    simp [results, Tryd.results20, go_sem, kcz]
  · subst hkd
    have kq := Blk.cell kb1
    have kqf := Blk.frozen kb1
    go_upto_region 20 with fail
    clear kq kqf
    have HSE := Lib.hid hS1
    have HGE := Lib.hid hG1
    clear hS1 hG1
    have kcb := Blk.cell kb1
    have kfr := Blk.frozen kr1
    have kcr0 := Blk.cell kr1
    have kcz := Blk.cell (ten_kz kr1 (.int .i64 2) (.string u) (.string ⟨#[]⟩) (.int .i64 ts) (.string tn) (.int .i64 0) (.string ⟨#[]⟩) (.string ⟨#[]⟩) (.int .i64 0) (.slice none 0 0))
    have HSF := Lib.hid (SG.ten HSE.out hn3 hbs.2.1 (.int .i64 2) (.string u) (.string ⟨#[]⟩) (.int .i64 ts) (.string tn) (.int .i64 0) (.string ⟨#[]⟩) (.string ⟨#[]⟩) (.int .i64 0) (.slice none 0 0))
    have HGF := Lib.hid (grown_ten HGE.out (Nat.le_refl _) (.int .i64 2) (.string u) (.string ⟨#[]⟩) (.int .i64 ts) (.string tn) (.int .i64 0) (.string ⟨#[]⟩) (.string ⟨#[]⟩) (.int .i64 0) (.slice none 0 0))
    go_wp2_with fail
    refine bodyPost_ret (v := .agg #[.int .i64 2, .string u, .string ⟨#[]⟩, .int .i64 ts, .string tn, .int .i64 0, .string ⟨#[]⟩, .string ⟨#[]⟩, .int .i64 0, .slice none 0 0]) ?_ rfl ⟨⟨2, u, ⟨#[]⟩, ts, tn, 0, ⟨#[]⟩, ⟨#[]⟩, 0, []⟩, none, 0, 0, rfl, mc_plain (by omega) HU.out HT.out, OwR.nil _ _ _ _ _, HSF.out, HGF.out⟩
    simp [results, Tryd.results20, go_sem, kcz]
  · subst hkd
    have kq := Blk.cell kb1
    have kqf := Blk.frozen kb1
    go_upto_region 20 with fail
    clear kq kqf
    have HSE := Lib.hid hS1
    have HGE := Lib.hid hG1
    clear hS1 hG1
    have kcb := Blk.cell kb1
    have kfr := Blk.frozen kr1
    have kcr0 := Blk.cell kr1
    have kcz := Blk.cell (ten_kz kr1 (.int .i64 3) (.string u) (.string ⟨#[]⟩) (.int .i64 ts) (.string tn) (.int .i64 0) (.string ⟨#[]⟩) (.string ⟨#[]⟩) (.int .i64 0) (.slice none 0 0))
    have HSF := Lib.hid (SG.ten HSE.out hn3 hbs.2.1 (.int .i64 3) (.string u) (.string ⟨#[]⟩) (.int .i64 ts) (.string tn) (.int .i64 0) (.string ⟨#[]⟩) (.string ⟨#[]⟩) (.int .i64 0) (.slice none 0 0))
    have HGF := Lib.hid (grown_ten HGE.out (Nat.le_refl _) (.int .i64 3) (.string u) (.string ⟨#[]⟩) (.int .i64 ts) (.string tn) (.int .i64 0) (.string ⟨#[]⟩) (.string ⟨#[]⟩) (.int .i64 0) (.slice none 0 0))
    go_wp2_with fail
    refine bodyPost_ret (v := .agg #[.int .i64 3, .string u, .string ⟨#[]⟩, .int .i64 ts, .string tn, .int .i64 0, .string ⟨#[]⟩, .string ⟨#[]⟩, .int .i64 0, .slice none 0 0]) ?_ rfl ⟨⟨3, u, ⟨#[]⟩, ts, tn, 0, ⟨#[]⟩, ⟨#[]⟩, 0, []⟩, none, 0, 0, rfl, mc_plain (by omega) HU.out HT.out, OwR.nil _ _ _ _ _, HSF.out, HGF.out⟩
    simp [results, Tryd.results20, go_sem, kcz]
  · subst hkd
    have kq := Blk.cell kb1
    have kqf := Blk.frozen kb1
    go_wp2_with fail
    go_at_call 34
    refine (title_mk w0 g A n c zs y1 hS1).mono ?_
    rintro e p1 ⟨p, rfl, hp, hSp, hgp⟩
    have kbp1 := heap_grown hgp hn1.symm kb1
    have krp1 := heap_grown hgp hn3.symm kr1
    have hGp1 := hG1.trans hgp
    have hSp1 := hSp
    clear hgp hSp kb1 kr1 hS1 hG1
    have kq := Blk.cell kbp1
    have kqf := Blk.frozen kbp1
    go_wp2_with fail
    go_at_call 26
    refine (hSp1.nxt 2 (by omega) (by omega)).mono ?_
    rintro e p2 ⟨q, rfl, qa, qb, hsp, hgp⟩
    have hSp2 := hSp1.next hsp hgp
    have kbp2 := heap_grown hgp hn1.symm kbp1
    have krp2 := heap_grown hgp hn3.symm krp1
    have hGp2 := hGp1.trans hgp
    clear hgp hsp kbp1 krp1 hSp1 hGp1
    have kq := Blk.cell kbp2
    have kqf := Blk.frozen kbp2
    have kw5 : (p2.setCell ⟨bc, 5, none⟩ (.int .i64 p.1)).heap[bc]? = some (.cells #[.int .i64 4, .string u, .string ⟨#[]⟩, .int .i64 ts, .string tn, .int .i64 p.1, .string ⟨#[]⟩, .string ⟨#[]⟩, .int .i64 0, .slice none 0 0] 31 (0, 0)) := heap_set_near _ _ _ _ _ _ kbp2
    have kw6 : ((p2.setCell ⟨bc, 5, none⟩ (.int .i64 p.1)).setCell ⟨bc, 6, none⟩ (.string p.2)).heap[bc]? = some (.cells #[.int .i64 4, .string u, .string ⟨#[]⟩, .int .i64 ts, .string tn, .int .i64 p.1, .string p.2, .string ⟨#[]⟩, .int .i64 0, .slice none 0 0] 31 (0, 0)) := heap_set_near _ _ _ _ _ _ kw5
    have kw8 : (((p2.setCell ⟨bc, 5, none⟩ (.int .i64 p.1)).setCell ⟨bc, 6, none⟩ (.string p.2)).setCell ⟨bc, 8, none⟩ (.int .i64 q)).heap[bc]? = some (.cells #[.int .i64 4, .string u, .string ⟨#[]⟩, .int .i64 ts, .string tn, .int .i64 p.1, .string p.2, .string ⟨#[]⟩, .int .i64 q, .slice none 0 0] 31 (0, 0)) := heap_set_near _ _ _ _ _ _ kw6
    have kbs3 : (((p2.setCell ⟨bc, 5, none⟩ (.int .i64 p.1)).setCell ⟨bc, 6, none⟩ (.string p.2)).setCell ⟨bc, 8, none⟩ (.int .i64 q)).heap[bc]? = _ := kw8
    have krs3 : (((p2.setCell ⟨bc, 5, none⟩ (.int .i64 p.1)).setCell ⟨bc, 6, none⟩ (.string p.2)).setCell ⟨bc, 8, none⟩ (.int .i64 q)).heap[W.heap.size]? = _ := ((heap_set_far _ _ _ _ _ hn5.symm).trans ((heap_set_far _ _ _ _ _ hn5.symm).trans ((heap_set_far _ _ _ _ _ hn5.symm).trans krp2)))
    have hSs3 := (((hSp2.set (i := 5) hn1 hbs.1 (.int .i64 p.1)).set (i := 6) hn1 hbs.1 (.string p.2)).set (i := 8) hn1 hbs.1 (.int .i64 q))
    have hGs3 := (grown_setN (i := 8) (grown_setN (i := 6) (grown_setN (i := 5) hGp2 hbs.2.2 (.int .i64 p.1)) hbs.2.2 (.string p.2)) hbs.2.2 (.int .i64 q))
    clear kbp2 krp2 hSp2 hGp2 kw5 kw6 kw8
    go_upto_region 20 with fail
    clear kq kqf
    generalize (((p2.setCell ⟨bc, 5, none⟩ (.int .i64 p.1)).setCell ⟨bc, 6, none⟩ (.string p.2)).setCell ⟨bc, 8, none⟩ (.int .i64 q)) = y13 at *
    have HSE := Lib.hid hSs3
    have HGE := Lib.hid hGs3
    clear hSs3 hGs3
    have kcb := Blk.cell kbs3
    have kfr := Blk.frozen krs3
    have kcr0 := Blk.cell krs3
    have kcz := Blk.cell (ten_kz krs3 (.int .i64 4) (.string u) (.string ⟨#[]⟩) (.int .i64 ts) (.string tn) (.int .i64 p.1) (.string p.2) (.string ⟨#[]⟩) (.int .i64 q) (.slice none 0 0))
    have HSF := Lib.hid (SG.ten HSE.out hn3 hbs.2.1 (.int .i64 4) (.string u) (.string ⟨#[]⟩) (.int .i64 ts) (.string tn) (.int .i64 p.1) (.string p.2) (.string ⟨#[]⟩) (.int .i64 q) (.slice none 0 0))
    have HGF := Lib.hid (grown_ten HGE.out (Nat.le_refl _) (.int .i64 4) (.string u) (.string ⟨#[]⟩) (.int .i64 ts) (.string tn) (.int .i64 p.1) (.string p.2) (.string ⟨#[]⟩) (.int .i64 q) (.slice none 0 0))
    go_wp2_with fail
    refine bodyPost_ret (v := .agg #[.int .i64 4, .string u, .string ⟨#[]⟩, .int .i64 ts, .string tn, .int .i64 p.1, .string p.2, .string ⟨#[]⟩, .int .i64 q, .slice none 0 0]) ?_ rfl ⟨⟨4, u, ⟨#[]⟩, ts, tn, p.1, p.2, ⟨#[]⟩, q, []⟩, none, 0, 0, rfl, mc_move HU.out HT.out hp (by omega) (by omega), OwR.nil _ _ _ _ _, HSF.out, HGF.out⟩
    simp [results, Tryd.results20, go_sem, kcz]
  · subst hkd
    have kq := Blk.cell kb1
    have kqf := Blk.frozen kb1
    have hyb : bc < y1.heap.size := Blk.lt kb1
    go_wp2_with fail
    go_at_call 37
    refine (revs_any w0 g A n c zs ck y1 hS1 hck).mono ?_
    rintro e p1 ⟨Ar, nr, cr, L, rfl, hor, hL1, hL2, hL3, hL4, hSp, hgp⟩
    have kbp1 := heap_grown hgp hn1.symm kb1
    have krp1 := heap_grown hgp hn3.symm kr1
    have hGp1 := hG1.trans hgp
    have hSp1 := hSp
    clear hgp hSp kb1 kr1 hS1 hG1
    have kq := Blk.cell kbp1
    have kqf := Blk.frozen kbp1
    have HOR := Lib.hid hor
    have HLL := Lib.hid (And.intro hL1 (And.intro hL2 (And.intro hL3 hL4)))
    have HNB : Hid (Ar.map (·.block) ≠ some bc ∧ Ar.map (·.block) ≠ some W.heap.size ∧ W.heap.size ≤ y1.heap.size) := Lib.hid ⟨fun hh => by have := (OwV.lt hor _ hh).1; omega, fun hh => by have := (OwV.lt hor _ hh).1; omega, by omega⟩
    clear hor hL1 hL2 hL3 hL4 hyb
    have hor2 : OwR RV 6 (p1.setCell ⟨bc, 9, none⟩ (.slice Ar nr cr)) y1.heap.size 67 Ar nr cr L := OwV.st HOR.out HNB.out.1
    have kw9 : (p1.setCell ⟨bc, 9, none⟩ (.slice Ar nr cr)).heap[bc]? = some (.cells #[.int .i64 5, .string u, .string ⟨#[]⟩, .int .i64 ts, .string tn, .int .i64 0, .string ⟨#[]⟩, .string ⟨#[]⟩, .int .i64 0, .slice Ar nr cr] 31 (0, 0)) := heap_set_near _ _ _ _ _ _ kbp1
    have kbs2 : (p1.setCell ⟨bc, 9, none⟩ (.slice Ar nr cr)).heap[bc]? = _ := kw9
    have krs2 : (p1.setCell ⟨bc, 9, none⟩ (.slice Ar nr cr)).heap[W.heap.size]? = _ := ((heap_set_far _ _ _ _ _ hn5.symm).trans krp1)
    have hSs2 := (hSp1.set (i := 9) hn1 hbs.1 (.slice Ar nr cr))
    have hGs2 := (grown_setN (i := 9) hGp1 hbs.2.2 (.slice Ar nr cr))
    clear kbp1 krp1 hSp1 hGp1 kw9
    go_upto_region 20 with fail
    clear kq kqf
    generalize (p1.setCell ⟨bc, 9, none⟩ (.slice Ar nr cr)) = y12 at *
    have HO2 := Lib.hid hor2
    clear hor2
    have HSE := Lib.hid hSs2
    have HGE := Lib.hid hGs2
    clear hSs2 hGs2
    have kcb := Blk.cell kbs2
    have kfr := Blk.frozen krs2
    have kcr0 := Blk.cell krs2
    have kcz := Blk.cell (ten_kz krs2 (.int .i64 5) (.string u) (.string ⟨#[]⟩) (.int .i64 ts) (.string tn) (.int .i64 0) (.string ⟨#[]⟩) (.string ⟨#[]⟩) (.int .i64 0) (.slice Ar nr cr))
    have HSF := Lib.hid (SG.ten HSE.out hn3 hbs.2.1 (.int .i64 5) (.string u) (.string ⟨#[]⟩) (.int .i64 ts) (.string tn) (.int .i64 0) (.string ⟨#[]⟩) (.string ⟨#[]⟩) (.int .i64 0) (.slice Ar nr cr))
    have HGF := Lib.hid (grown_ten HGE.out (Nat.le_refl _) (.int .i64 5) (.string u) (.string ⟨#[]⟩) (.int .i64 ts) (.string tn) (.int .i64 0) (.string ⟨#[]⟩) (.string ⟨#[]⟩) (.int .i64 0) (.slice Ar nr cr))
    go_wp2_with fail
    refine bodyPost_ret (v := .agg #[.int .i64 5, .string u, .string ⟨#[]⟩, .int .i64 ts, .string tn, .int .i64 0, .string ⟨#[]⟩, .string ⟨#[]⟩, .int .i64 0, .slice Ar nr cr]) ?_ rfl ⟨⟨5, u, ⟨#[]⟩, ts, tn, 0, ⟨#[]⟩, ⟨#[]⟩, 0, L⟩, Ar, nr, cr, rfl, mc_import HU.out HT.out HLL.out.1 HLL.out.2.1 HLL.out.2.2.1 HLL.out.2.2.2, ((OwV.st (i := 9) (u := .slice Ar nr cr) (OwV.st (i := 8) (u := .int .i64 0) (OwV.st (i := 7) (u := .string ⟨#[]⟩) (OwV.st (i := 6) (u := .string ⟨#[]⟩) (OwV.st (i := 5) (u := .int .i64 0) (OwV.st (i := 4) (u := .string tn) (OwV.st (i := 3) (u := .int .i64 ts) (OwV.st (i := 2) (u := .string ⟨#[]⟩) (OwV.st (i := 1) (u := .string u) (OwV.st (i := 0) (u := .int .i64 5) HO2.out HNB.out.2.1) HNB.out.2.1) HNB.out.2.1) HNB.out.2.1) HNB.out.2.1) HNB.out.2.1) HNB.out.2.1) HNB.out.2.1) HNB.out.2.1) HNB.out.2.1)).mono HNB.out.2.2, HSF.out, HGF.out⟩
    simp [results, Tryd.results20, go_sem, kcz]
  · subst hkd
    have kq := Blk.cell kb1
    have kqf := Blk.frozen kb1
    go_wp2_with fail
    go_at_call 26
    refine (hS1.nxt 2000 (by omega) (by omega)).mono ?_
    rintro e p1 ⟨q, rfl, qa, qb, hsp, hgp⟩
    have hSp1 := hS1.next hsp hgp
    have kbp1 := heap_grown hgp hn1.symm kb1
    have krp1 := heap_grown hgp hn3.symm kr1
    have hGp1 := hG1.trans hgp
    clear hgp hsp kb1 kr1 hS1 hG1
    have kq := Blk.cell kbp1
    have kqf := Blk.frozen kbp1
    have kw0 : (p1.setCell ⟨bc, 0, none⟩ (.int .i64 6)).heap[bc]? = some (.cells #[.int .i64 6, .string u, .string ⟨#[]⟩, .int .i64 ts, .string tn, .int .i64 0, .string ⟨#[]⟩, .string ⟨#[]⟩, .int .i64 0, .slice none 0 0] 31 (0, 0)) := heap_set_near _ _ _ _ _ _ kbp1
    have kw1 : ((p1.setCell ⟨bc, 0, none⟩ (.int .i64 6)).setCell ⟨bc, 1, none⟩ (.string ⟨#[]⟩)).heap[bc]? = some (.cells #[.int .i64 6, .string ⟨#[]⟩, .string ⟨#[]⟩, .int .i64 ts, .string tn, .int .i64 0, .string ⟨#[]⟩, .string ⟨#[]⟩, .int .i64 0, .slice none 0 0] 31 (0, 0)) := heap_set_near _ _ _ _ _ _ kw0
    have kw2 : (((p1.setCell ⟨bc, 0, none⟩ (.int .i64 6)).setCell ⟨bc, 1, none⟩ (.string ⟨#[]⟩)).setCell ⟨bc, 2, none⟩ (.string ⟨#[]⟩)).heap[bc]? = some (.cells #[.int .i64 6, .string ⟨#[]⟩, .string ⟨#[]⟩, .int .i64 ts, .string tn, .int .i64 0, .string ⟨#[]⟩, .string ⟨#[]⟩, .int .i64 0, .slice none 0 0] 31 (0, 0)) := heap_set_near _ _ _ _ _ _ kw1
    have kw3 : ((((p1.setCell ⟨bc, 0, none⟩ (.int .i64 6)).setCell ⟨bc, 1, none⟩ (.string ⟨#[]⟩)).setCell ⟨bc, 2, none⟩ (.string ⟨#[]⟩)).setCell ⟨bc, 3, none⟩ (.int .i64 0)).heap[bc]? = some (.cells #[.int .i64 6, .string ⟨#[]⟩, .string ⟨#[]⟩, .int .i64 0, .string tn, .int .i64 0, .string ⟨#[]⟩, .string ⟨#[]⟩, .int .i64 0, .slice none 0 0] 31 (0, 0)) := heap_set_near _ _ _ _ _ _ kw2
    have kw4 : (((((p1.setCell ⟨bc, 0, none⟩ (.int .i64 6)).setCell ⟨bc, 1, none⟩ (.string ⟨#[]⟩)).setCell ⟨bc, 2, none⟩ (.string ⟨#[]⟩)).setCell ⟨bc, 3, none⟩ (.int .i64 0)).setCell ⟨bc, 4, none⟩ (.string ⟨#[]⟩)).heap[bc]? = some (.cells #[.int .i64 6, .string ⟨#[]⟩, .string ⟨#[]⟩, .int .i64 0, .string ⟨#[]⟩, .int .i64 0, .string ⟨#[]⟩, .string ⟨#[]⟩, .int .i64 0, .slice none 0 0] 31 (0, 0)) := heap_set_near _ _ _ _ _ _ kw3
    have kw5 : ((((((p1.setCell ⟨bc, 0, none⟩ (.int .i64 6)).setCell ⟨bc, 1, none⟩ (.string ⟨#[]⟩)).setCell ⟨bc, 2, none⟩ (.string ⟨#[]⟩)).setCell ⟨bc, 3, none⟩ (.int .i64 0)).setCell ⟨bc, 4, none⟩ (.string ⟨#[]⟩)).setCell ⟨bc, 5, none⟩ (.int .i64 0)).heap[bc]? = some (.cells #[.int .i64 6, .string ⟨#[]⟩, .string ⟨#[]⟩, .int .i64 0, .string ⟨#[]⟩, .int .i64 0, .string ⟨#[]⟩, .string ⟨#[]⟩, .int .i64 0, .slice none 0 0] 31 (0, 0)) := heap_set_near _ _ _ _ _ _ kw4
    have kw6 : (((((((p1.setCell ⟨bc, 0, none⟩ (.int .i64 6)).setCell ⟨bc, 1, none⟩ (.string ⟨#[]⟩)).setCell ⟨bc, 2, none⟩ (.string ⟨#[]⟩)).setCell ⟨bc, 3, none⟩ (.int .i64 0)).setCell ⟨bc, 4, none⟩ (.string ⟨#[]⟩)).setCell ⟨bc, 5, none⟩ (.int .i64 0)).setCell ⟨bc, 6, none⟩ (.string ⟨#[]⟩)).heap[bc]? = some (.cells #[.int .i64 6, .string ⟨#[]⟩, .string ⟨#[]⟩, .int .i64 0, .string ⟨#[]⟩, .int .i64 0, .string ⟨#[]⟩, .string ⟨#[]⟩, .int .i64 0, .slice none 0 0] 31 (0, 0)) := heap_set_near _ _ _ _ _ _ kw5
    have kw7 : ((((((((p1.setCell ⟨bc, 0, none⟩ (.int .i64 6)).setCell ⟨bc, 1, none⟩ (.string ⟨#[]⟩)).setCell ⟨bc, 2, none⟩ (.string ⟨#[]⟩)).setCell ⟨bc, 3, none⟩ (.int .i64 0)).setCell ⟨bc, 4, none⟩ (.string ⟨#[]⟩)).setCell ⟨bc, 5, none⟩ (.int .i64 0)).setCell ⟨bc, 6, none⟩ (.string ⟨#[]⟩)).setCell ⟨bc, 7, none⟩ (.string ⟨#[]⟩)).heap[bc]? = some (.cells #[.int .i64 6, .string ⟨#[]⟩, .string ⟨#[]⟩, .int .i64 0, .string ⟨#[]⟩, .int .i64 0, .string ⟨#[]⟩, .string ⟨#[]⟩, .int .i64 0, .slice none 0 0] 31 (0, 0)) := heap_set_near _ _ _ _ _ _ kw6
    have kw8 : (((((((((p1.setCell ⟨bc, 0, none⟩ (.int .i64 6)).setCell ⟨bc, 1, none⟩ (.string ⟨#[]⟩)).setCell ⟨bc, 2, none⟩ (.string ⟨#[]⟩)).setCell ⟨bc, 3, none⟩ (.int .i64 0)).setCell ⟨bc, 4, none⟩ (.string ⟨#[]⟩)).setCell ⟨bc, 5, none⟩ (.int .i64 0)).setCell ⟨bc, 6, none⟩ (.string ⟨#[]⟩)).setCell ⟨bc, 7, none⟩ (.string ⟨#[]⟩)).setCell ⟨bc, 8, none⟩ (.int .i64 (1 + q))).heap[bc]? = some (.cells #[.int .i64 6, .string ⟨#[]⟩, .string ⟨#[]⟩, .int .i64 0, .string ⟨#[]⟩, .int .i64 0, .string ⟨#[]⟩, .string ⟨#[]⟩, .int .i64 (1 + q), .slice none 0 0] 31 (0, 0)) := heap_set_near _ _ _ _ _ _ kw7
    have kw9 : ((((((((((p1.setCell ⟨bc, 0, none⟩ (.int .i64 6)).setCell ⟨bc, 1, none⟩ (.string ⟨#[]⟩)).setCell ⟨bc, 2, none⟩ (.string ⟨#[]⟩)).setCell ⟨bc, 3, none⟩ (.int .i64 0)).setCell ⟨bc, 4, none⟩ (.string ⟨#[]⟩)).setCell ⟨bc, 5, none⟩ (.int .i64 0)).setCell ⟨bc, 6, none⟩ (.string ⟨#[]⟩)).setCell ⟨bc, 7, none⟩ (.string ⟨#[]⟩)).setCell ⟨bc, 8, none⟩ (.int .i64 (1 + q))).setCell ⟨bc, 9, none⟩ (.slice none 0 0)).heap[bc]? = some (.cells #[.int .i64 6, .string ⟨#[]⟩, .string ⟨#[]⟩, .int .i64 0, .string ⟨#[]⟩, .int .i64 0, .string ⟨#[]⟩, .string ⟨#[]⟩, .int .i64 (1 + q), .slice none 0 0] 31 (0, 0)) := heap_set_near _ _ _ _ _ _ kw8
    have kbs2 : ((((((((((p1.setCell ⟨bc, 0, none⟩ (.int .i64 6)).setCell ⟨bc, 1, none⟩ (.string ⟨#[]⟩)).setCell ⟨bc, 2, none⟩ (.string ⟨#[]⟩)).setCell ⟨bc, 3, none⟩ (.int .i64 0)).setCell ⟨bc, 4, none⟩ (.string ⟨#[]⟩)).setCell ⟨bc, 5, none⟩ (.int .i64 0)).setCell ⟨bc, 6, none⟩ (.string ⟨#[]⟩)).setCell ⟨bc, 7, none⟩ (.string ⟨#[]⟩)).setCell ⟨bc, 8, none⟩ (.int .i64 (1 + q))).setCell ⟨bc, 9, none⟩ (.slice none 0 0)).heap[bc]? = _ := kw9
    have krs2 : ((((((((((p1.setCell ⟨bc, 0, none⟩ (.int .i64 6)).setCell ⟨bc, 1, none⟩ (.string ⟨#[]⟩)).setCell ⟨bc, 2, none⟩ (.string ⟨#[]⟩)).setCell ⟨bc, 3, none⟩ (.int .i64 0)).setCell ⟨bc, 4, none⟩ (.string ⟨#[]⟩)).setCell ⟨bc, 5, none⟩ (.int .i64 0)).setCell ⟨bc, 6, none⟩ (.string ⟨#[]⟩)).setCell ⟨bc, 7, none⟩ (.string ⟨#[]⟩)).setCell ⟨bc, 8, none⟩ (.int .i64 (1 + q))).setCell ⟨bc, 9, none⟩ (.slice none 0 0)).heap[W.heap.size]? = _ := ((heap_set_far _ _ _ _ _ hn5.symm).trans ((heap_set_far _ _ _ _ _ hn5.symm).trans ((heap_set_far _ _ _ _ _ hn5.symm).trans ((heap_set_far _ _ _ _ _ hn5.symm).trans ((heap_set_far _ _ _ _ _ hn5.symm).trans ((heap_set_far _ _ _ _ _ hn5.symm).trans ((heap_set_far _ _ _ _ _ hn5.symm).trans ((heap_set_far _ _ _ _ _ hn5.symm).trans ((heap_set_far _ _ _ _ _ hn5.symm).trans ((heap_set_far _ _ _ _ _ hn5.symm).trans krp1))))))))))
    have hSs2 := ((((((((((hSp1.set (i := 0) hn1 hbs.1 (.int .i64 6)).set (i := 1) hn1 hbs.1 (.string ⟨#[]⟩)).set (i := 2) hn1 hbs.1 (.string ⟨#[]⟩)).set (i := 3) hn1 hbs.1 (.int .i64 0)).set (i := 4) hn1 hbs.1 (.string ⟨#[]⟩)).set (i := 5) hn1 hbs.1 (.int .i64 0)).set (i := 6) hn1 hbs.1 (.string ⟨#[]⟩)).set (i := 7) hn1 hbs.1 (.string ⟨#[]⟩)).set (i := 8) hn1 hbs.1 (.int .i64 (1 + q))).set (i := 9) hn1 hbs.1 (.slice none 0 0))
    have hGs2 := (grown_setN (i := 9) (grown_setN (i := 8) (grown_setN (i := 7) (grown_setN (i := 6) (grown_setN (i := 5) (grown_setN (i := 4) (grown_setN (i := 3) (grown_setN (i := 2) (grown_setN (i := 1) (grown_setN (i := 0) hGp1 hbs.2.2 (.int .i64 6)) hbs.2.2 (.string ⟨#[]⟩)) hbs.2.2 (.string ⟨#[]⟩)) hbs.2.2 (.int .i64 0)) hbs.2.2 (.string ⟨#[]⟩)) hbs.2.2 (.int .i64 0)) hbs.2.2 (.string ⟨#[]⟩)) hbs.2.2 (.string ⟨#[]⟩)) hbs.2.2 (.int .i64 (1 + q))) hbs.2.2 (.slice none 0 0))
    clear kbp1 krp1 hSp1 hGp1 kw0 kw1 kw2 kw3 kw4 kw5 kw6 kw7 kw8 kw9
    go_upto_region 20 with fail
    clear kq kqf
    generalize ((((((((((p1.setCell ⟨bc, 0, none⟩ (.int .i64 6)).setCell ⟨bc, 1, none⟩ (.string ⟨#[]⟩)).setCell ⟨bc, 2, none⟩ (.string ⟨#[]⟩)).setCell ⟨bc, 3, none⟩ (.int .i64 0)).setCell ⟨bc, 4, none⟩ (.string ⟨#[]⟩)).setCell ⟨bc, 5, none⟩ (.int .i64 0)).setCell ⟨bc, 6, none⟩ (.string ⟨#[]⟩)).setCell ⟨bc, 7, none⟩ (.string ⟨#[]⟩)).setCell ⟨bc, 8, none⟩ (.int .i64 (1 + q))).setCell ⟨bc, 9, none⟩ (.slice none 0 0)) = y12 at *
    have HSE := Lib.hid hSs2
    have HGE := Lib.hid hGs2
    clear hSs2 hGs2
    have kcb := Blk.cell kbs2
    have kfr := Blk.frozen krs2
    have kcr0 := Blk.cell krs2
    have kcz := Blk.cell (ten_kz krs2 (.int .i64 6) (.string ⟨#[]⟩) (.string ⟨#[]⟩) (.int .i64 0) (.string ⟨#[]⟩) (.int .i64 0) (.string ⟨#[]⟩) (.string ⟨#[]⟩) (.int .i64 (1 + q)) (.slice none 0 0))
    have HSF := Lib.hid (SG.ten HSE.out hn3 hbs.2.1 (.int .i64 6) (.string ⟨#[]⟩) (.string ⟨#[]⟩) (.int .i64 0) (.string ⟨#[]⟩) (.int .i64 0) (.string ⟨#[]⟩) (.string ⟨#[]⟩) (.int .i64 (1 + q)) (.slice none 0 0))
    have HGF := Lib.hid (grown_ten HGE.out (Nat.le_refl _) (.int .i64 6) (.string ⟨#[]⟩) (.string ⟨#[]⟩) (.int .i64 0) (.string ⟨#[]⟩) (.int .i64 0) (.string ⟨#[]⟩) (.string ⟨#[]⟩) (.int .i64 (1 + q)) (.slice none 0 0))
    go_wp2_with fail
    refine bodyPost_ret (v := .agg #[.int .i64 6, .string ⟨#[]⟩, .string ⟨#[]⟩, .int .i64 0, .string ⟨#[]⟩, .int .i64 0, .string ⟨#[]⟩, .string ⟨#[]⟩, .int .i64 (1 + q), .slice none 0 0]) ?_ rfl ⟨⟨6, ⟨#[]⟩, ⟨#[]⟩, 0, ⟨#[]⟩, 0, ⟨#[]⟩, ⟨#[]⟩, 1 + q, []⟩, none, 0, 0, rfl, mc_tick (by omega) (by omega), OwR.nil _ _ _ _ _, HSF.out, HGF.out⟩
    simp [results, Tryd.results20, go_sem, kcz]
  · subst hkd
    have kq := Blk.cell kb1
    have kqf := Blk.frozen kb1
    by_cases hue : u = ⟨#[]⟩
    · have HU2 : Hid (isUs ⟨#[98, 111, 98]⟩ = true) := Lib.hid (by kernel_rfl)
      subst hue
      have kw1 : (y1.setCell ⟨bc, 1, none⟩ (.string ⟨#[98, 111, 98]⟩)).heap[bc]? = some (.cells #[.int .i64 7, .string ⟨#[98, 111, 98]⟩, .string ⟨#[]⟩, .int .i64 ts, .string tn, .int .i64 0, .string ⟨#[]⟩, .string ⟨#[]⟩, .int .i64 0, .slice none 0 0] 31 (0, 0)) := heap_set_near _ _ _ _ _ _ kb1
      have kbs1 : (y1.setCell ⟨bc, 1, none⟩ (.string ⟨#[98, 111, 98]⟩)).heap[bc]? = _ := kw1
      have krs1 : (y1.setCell ⟨bc, 1, none⟩ (.string ⟨#[98, 111, 98]⟩)).heap[W.heap.size]? = _ := ((heap_set_far _ _ _ _ _ hn5.symm).trans kr1)
      have hSs1 := (hS1.set (i := 1) hn1 hbs.1 (.string ⟨#[98, 111, 98]⟩))
      have hGs1 := (grown_setN (i := 1) hG1 hbs.2.2 (.string ⟨#[98, 111, 98]⟩))
      clear kb1 kr1 hS1 hG1 kw1
      go_upto_region 20 with fail
      clear kq kqf
      generalize (y1.setCell ⟨bc, 1, none⟩ (.string ⟨#[98, 111, 98]⟩)) = y11 at *
      have HSE := Lib.hid hSs1
      have HGE := Lib.hid hGs1
      clear hSs1 hGs1
      have kcb := Blk.cell kbs1
      have kfr := Blk.frozen krs1
      have kcr0 := Blk.cell krs1
      have kcz := Blk.cell (ten_kz krs1 (.int .i64 7) (.string ⟨#[98, 111, 98]⟩) (.string ⟨#[]⟩) (.int .i64 ts) (.string tn) (.int .i64 0) (.string ⟨#[]⟩) (.string ⟨#[]⟩) (.int .i64 0) (.slice none 0 0))
      have HSF := Lib.hid (SG.ten HSE.out hn3 hbs.2.1 (.int .i64 7) (.string ⟨#[98, 111, 98]⟩) (.string ⟨#[]⟩) (.int .i64 ts) (.string tn) (.int .i64 0) (.string ⟨#[]⟩) (.string ⟨#[]⟩) (.int .i64 0) (.slice none 0 0))
      have HGF := Lib.hid (grown_ten HGE.out (Nat.le_refl _) (.int .i64 7) (.string ⟨#[98, 111, 98]⟩) (.string ⟨#[]⟩) (.int .i64 ts) (.string tn) (.int .i64 0) (.string ⟨#[]⟩) (.string ⟨#[]⟩) (.int .i64 0) (.slice none 0 0))
      go_wp2_with fail
      refine bodyPost_ret (v := .agg #[.int .i64 7, .string ⟨#[98, 111, 98]⟩, .string ⟨#[]⟩, .int .i64 ts, .string tn, .int .i64 0, .string ⟨#[]⟩, .string ⟨#[]⟩, .int .i64 0, .slice none 0 0]) ?_ rfl ⟨⟨7, ⟨#[98, 111, 98]⟩, ⟨#[]⟩, ts, tn, 0, ⟨#[]⟩, ⟨#[]⟩, 0, []⟩, none, 0, 0, rfl, mc_watch (by omega) HU2.out (by decide) HT.out, OwR.nil _ _ _ _ _, HSF.out, HGF.out⟩
      simp [results, Tryd.results20, go_sem, kcz]
    · have hq1 : (u.toList == (⟨#[]⟩ : ByteArray).toList) = false := by rw [str_beq]; simpa using hue
      have e0 : (⟨#[]⟩ : ByteArray).toList = [] := by rw [ByteArray.toList_eq]
      have hq2 : (u.toList == []) = false := by rw [← e0]; exact hq1
      clear e0
      have hq3 : ¬ u.toList = [] := fun e => by rw [e] at hq2; cases hq2
      have hsz : u.size ≠ 0 := fun e => hue (ba_nil e)
      go_upto_region 20 with fail
      clear kq kqf
      have HSE := Lib.hid hS1
      have HGE := Lib.hid hG1
      clear hS1 hG1
      have kcb := Blk.cell kb1
      have kfr := Blk.frozen kr1
      have kcr0 := Blk.cell kr1
      have kcz := Blk.cell (ten_kz kr1 (.int .i64 7) (.string u) (.string ⟨#[]⟩) (.int .i64 ts) (.string tn) (.int .i64 0) (.string ⟨#[]⟩) (.string ⟨#[]⟩) (.int .i64 0) (.slice none 0 0))
      have HSF := Lib.hid (SG.ten HSE.out hn3 hbs.2.1 (.int .i64 7) (.string u) (.string ⟨#[]⟩) (.int .i64 ts) (.string tn) (.int .i64 0) (.string ⟨#[]⟩) (.string ⟨#[]⟩) (.int .i64 0) (.slice none 0 0))
      have HGF := Lib.hid (grown_ten HGE.out (Nat.le_refl _) (.int .i64 7) (.string u) (.string ⟨#[]⟩) (.int .i64 ts) (.string tn) (.int .i64 0) (.string ⟨#[]⟩) (.string ⟨#[]⟩) (.int .i64 0) (.slice none 0 0))
      go_wp2_with fail
      refine bodyPost_ret (v := .agg #[.int .i64 7, .string u, .string ⟨#[]⟩, .int .i64 ts, .string tn, .int .i64 0, .string ⟨#[]⟩, .string ⟨#[]⟩, .int .i64 0, .slice none 0 0]) ?_ rfl ⟨⟨7, u, ⟨#[]⟩, ts, tn, 0, ⟨#[]⟩, ⟨#[]⟩, 0, []⟩, none, 0, 0, rfl, mc_watch (by omega) HU.out hsz HT.out, OwR.nil _ _ _ _ _, HSF.out, HGF.out⟩
      simp [results, Tryd.results20, go_sem, kcz]
  · subst hkd
    have kq := Blk.cell kb1
    have kqf := Blk.frozen kb1
    by_cases hue : u = ⟨#[]⟩
    · have HU2 : Hid (isUs ⟨#[98, 111, 98]⟩ = true) := Lib.hid (by kernel_rfl)
      subst hue
      have kw1 : (y1.setCell ⟨bc, 1, none⟩ (.string ⟨#[98, 111, 98]⟩)).heap[bc]? = some (.cells #[.int .i64 8, .string ⟨#[98, 111, 98]⟩, .string ⟨#[]⟩, .int .i64 ts, .string tn, .int .i64 0, .string ⟨#[]⟩, .string ⟨#[]⟩, .int .i64 0, .slice none 0 0] 31 (0, 0)) := heap_set_near _ _ _ _ _ _ kb1
      have kbs1 : (y1.setCell ⟨bc, 1, none⟩ (.string ⟨#[98, 111, 98]⟩)).heap[bc]? = _ := kw1
      have krs1 : (y1.setCell ⟨bc, 1, none⟩ (.string ⟨#[98, 111, 98]⟩)).heap[W.heap.size]? = _ := ((heap_set_far _ _ _ _ _ hn5.symm).trans kr1)
      have hSs1 := (hS1.set (i := 1) hn1 hbs.1 (.string ⟨#[98, 111, 98]⟩))
      have hGs1 := (grown_setN (i := 1) hG1 hbs.2.2 (.string ⟨#[98, 111, 98]⟩))
      clear kb1 kr1 hS1 hG1 kw1
      go_upto_region 20 with fail
      clear kq kqf
      generalize (y1.setCell ⟨bc, 1, none⟩ (.string ⟨#[98, 111, 98]⟩)) = y11 at *
      have HSE := Lib.hid hSs1
      have HGE := Lib.hid hGs1
      clear hSs1 hGs1
      have kcb := Blk.cell kbs1
      have kfr := Blk.frozen krs1
      have kcr0 := Blk.cell krs1
      have kcz := Blk.cell (ten_kz krs1 (.int .i64 8) (.string ⟨#[98, 111, 98]⟩) (.string ⟨#[]⟩) (.int .i64 ts) (.string tn) (.int .i64 0) (.string ⟨#[]⟩) (.string ⟨#[]⟩) (.int .i64 0) (.slice none 0 0))
      have HSF := Lib.hid (SG.ten HSE.out hn3 hbs.2.1 (.int .i64 8) (.string ⟨#[98, 111, 98]⟩) (.string ⟨#[]⟩) (.int .i64 ts) (.string tn) (.int .i64 0) (.string ⟨#[]⟩) (.string ⟨#[]⟩) (.int .i64 0) (.slice none 0 0))
      have HGF := Lib.hid (grown_ten HGE.out (Nat.le_refl _) (.int .i64 8) (.string ⟨#[98, 111, 98]⟩) (.string ⟨#[]⟩) (.int .i64 ts) (.string tn) (.int .i64 0) (.string ⟨#[]⟩) (.string ⟨#[]⟩) (.int .i64 0) (.slice none 0 0))
      go_wp2_with fail
      refine bodyPost_ret (v := .agg #[.int .i64 8, .string ⟨#[98, 111, 98]⟩, .string ⟨#[]⟩, .int .i64 ts, .string tn, .int .i64 0, .string ⟨#[]⟩, .string ⟨#[]⟩, .int .i64 0, .slice none 0 0]) ?_ rfl ⟨⟨8, ⟨#[98, 111, 98]⟩, ⟨#[]⟩, ts, tn, 0, ⟨#[]⟩, ⟨#[]⟩, 0, []⟩, none, 0, 0, rfl, mc_watch (by omega) HU2.out (by decide) HT.out, OwR.nil _ _ _ _ _, HSF.out, HGF.out⟩
      simp [results, Tryd.results20, go_sem, kcz]
    · have hq1 : (u.toList == (⟨#[]⟩ : ByteArray).toList) = false := by rw [str_beq]; simpa using hue
      have e0 : (⟨#[]⟩ : ByteArray).toList = [] := by rw [ByteArray.toList_eq]
      have hq2 : (u.toList == []) = false := by rw [← e0]; exact hq1
      clear e0
      have hq3 : ¬ u.toList = [] := fun e => by rw [e] at hq2; cases hq2
      have hsz : u.size ≠ 0 := fun e => hue (ba_nil e)
      go_upto_region 20 with fail
      clear kq kqf
      have HSE := Lib.hid hS1
      have HGE := Lib.hid hG1
      clear hS1 hG1
      have kcb := Blk.cell kb1
      have kfr := Blk.frozen kr1
      have kcr0 := Blk.cell kr1
      have kcz := Blk.cell (ten_kz kr1 (.int .i64 8) (.string u) (.string ⟨#[]⟩) (.int .i64 ts) (.string tn) (.int .i64 0) (.string ⟨#[]⟩) (.string ⟨#[]⟩) (.int .i64 0) (.slice none 0 0))
      have HSF := Lib.hid (SG.ten HSE.out hn3 hbs.2.1 (.int .i64 8) (.string u) (.string ⟨#[]⟩) (.int .i64 ts) (.string tn) (.int .i64 0) (.string ⟨#[]⟩) (.string ⟨#[]⟩) (.int .i64 0) (.slice none 0 0))
      have HGF := Lib.hid (grown_ten HGE.out (Nat.le_refl _) (.int .i64 8) (.string u) (.string ⟨#[]⟩) (.int .i64 ts) (.string tn) (.int .i64 0) (.string ⟨#[]⟩) (.string ⟨#[]⟩) (.int .i64 0) (.slice none 0 0))
      go_wp2_with fail
      refine bodyPost_ret (v := .agg #[.int .i64 8, .string u, .string ⟨#[]⟩, .int .i64 ts, .string tn, .int .i64 0, .string ⟨#[]⟩, .string ⟨#[]⟩, .int .i64 0, .slice none 0 0]) ?_ rfl ⟨⟨8, u, ⟨#[]⟩, ts, tn, 0, ⟨#[]⟩, ⟨#[]⟩, 0, []⟩, none, 0, 0, rfl, mc_watch (by omega) HU.out hsz HT.out, OwR.nil _ _ _ _ _, HSF.out, HGF.out⟩
      simp [results, Tryd.results20, go_sem, kcz]
  · subst hkd
    have kq := Blk.cell kb1
    have kqf := Blk.frozen kb1
    go_wp2_with fail
    go_at_call 35
    refine (note_any w0 g A n c zs y1 hS1).mono ?_
    rintro e p1 ⟨nt, rfl, hnt, hSp, hgp⟩
    have kbp1 := heap_grown hgp hn1.symm kb1
    have krp1 := heap_grown hgp hn3.symm kr1
    have hGp1 := hG1.trans hgp
    have hSp1 := hSp
    clear hgp hSp kb1 kr1 hS1 hG1
    have kq := Blk.cell kbp1
    have kqf := Blk.frozen kbp1
    go_wp2_with fail
    go_at_call 36
    refine (text_mk w0 g A n c zs p1 hSp1).mono ?_
    rintro e p2 ⟨tx, rfl, htx, hSp, hgp⟩
    have kbp2 := heap_grown hgp hn1.symm kbp1
    have krp2 := heap_grown hgp hn3.symm krp1
    have hGp2 := hGp1.trans hgp
    have hSp2 := hSp
    clear hgp hSp kbp1 krp1 hSp1 hGp1
    have kq := Blk.cell kbp2
    have kqf := Blk.frozen kbp2
    have kw2 : (p2.setCell ⟨bc, 2, none⟩ (.string nt)).heap[bc]? = some (.cells #[.int .i64 9, .string u, .string nt, .int .i64 ts, .string tn, .int .i64 0, .string ⟨#[]⟩, .string ⟨#[]⟩, .int .i64 0, .slice none 0 0] 31 (0, 0)) := heap_set_near _ _ _ _ _ _ kbp2
    have kw7 : ((p2.setCell ⟨bc, 2, none⟩ (.string nt)).setCell ⟨bc, 7, none⟩ (.string tx)).heap[bc]? = some (.cells #[.int .i64 9, .string u, .string nt, .int .i64 ts, .string tn, .int .i64 0, .string ⟨#[]⟩, .string tx, .int .i64 0, .slice none 0 0] 31 (0, 0)) := heap_set_near _ _ _ _ _ _ kw2
    have kbs3 : ((p2.setCell ⟨bc, 2, none⟩ (.string nt)).setCell ⟨bc, 7, none⟩ (.string tx)).heap[bc]? = _ := kw7
    have krs3 : ((p2.setCell ⟨bc, 2, none⟩ (.string nt)).setCell ⟨bc, 7, none⟩ (.string tx)).heap[W.heap.size]? = _ := ((heap_set_far _ _ _ _ _ hn5.symm).trans ((heap_set_far _ _ _ _ _ hn5.symm).trans krp2))
    have hSs3 := ((hSp2.set (i := 2) hn1 hbs.1 (.string nt)).set (i := 7) hn1 hbs.1 (.string tx))
    have hGs3 := (grown_setN (i := 7) (grown_setN (i := 2) hGp2 hbs.2.2 (.string nt)) hbs.2.2 (.string tx))
    clear kbp2 krp2 hSp2 hGp2 kw2 kw7
    go_upto_region 6 with fail
    clear kq kqf
    generalize ((p2.setCell ⟨bc, 2, none⟩ (.string nt)).setCell ⟨bc, 7, none⟩ (.string tx)) = y13 at *
    have kq := Blk.cell kbs3
    have kqf := Blk.frozen kbs3
    go_wp2_with fail
    go_at_call 26
    refine (hSs3.nxt 3 (by omega) (by omega)).mono ?_
    rintro e p4 ⟨q, rfl, qa, qb, hsp, hgp⟩
    have hSp4 := hSs3.next hsp hgp
    have kbp4 := heap_grown hgp hn1.symm kbs3
    have krp4 := heap_grown hgp hn3.symm krs3
    have hGp4 := hGs3.trans hgp
    clear hgp hsp kbs3 krs3 hSs3 hGs3
    have kq := Blk.cell kbp4
    have kqf := Blk.frozen kbp4
    have kw8 : (p4.setCell ⟨bc, 8, none⟩ (.int .i64 q)).heap[bc]? = some (.cells #[.int .i64 9, .string u, .string nt, .int .i64 ts, .string tn, .int .i64 0, .string ⟨#[]⟩, .string tx, .int .i64 q, .slice none 0 0] 31 (0, 0)) := heap_set_near _ _ _ _ _ _ kbp4
    have kbs5 : (p4.setCell ⟨bc, 8, none⟩ (.int .i64 q)).heap[bc]? = _ := kw8
    have krs5 : (p4.setCell ⟨bc, 8, none⟩ (.int .i64 q)).heap[W.heap.size]? = _ := ((heap_set_far _ _ _ _ _ hn5.symm).trans krp4)
    have hSs5 := (hSp4.set (i := 8) hn1 hbs.1 (.int .i64 q))
    have hGs5 := (grown_setN (i := 8) hGp4 hbs.2.2 (.int .i64 q))
    clear kbp4 krp4 hSp4 hGp4 kw8
    go_upto_region 20 with fail
    clear kq kqf
    generalize (p4.setCell ⟨bc, 8, none⟩ (.int .i64 q)) = y15 at *
    have HSE := Lib.hid hSs5
    have HGE := Lib.hid hGs5
    clear hSs5 hGs5
    have kcb := Blk.cell kbs5
    have kfr := Blk.frozen krs5
    have kcr0 := Blk.cell krs5
    have kcz := Blk.cell (ten_kz krs5 (.int .i64 9) (.string u) (.string nt) (.int .i64 ts) (.string tn) (.int .i64 0) (.string ⟨#[]⟩) (.string tx) (.int .i64 q) (.slice none 0 0))
    have HSF := Lib.hid (SG.ten HSE.out hn3 hbs.2.1 (.int .i64 9) (.string u) (.string nt) (.int .i64 ts) (.string tn) (.int .i64 0) (.string ⟨#[]⟩) (.string tx) (.int .i64 q) (.slice none 0 0))
    have HGF := Lib.hid (grown_ten HGE.out (Nat.le_refl _) (.int .i64 9) (.string u) (.string nt) (.int .i64 ts) (.string tn) (.int .i64 0) (.string ⟨#[]⟩) (.string tx) (.int .i64 q) (.slice none 0 0))
    go_wp2_with fail
    refine bodyPost_ret (v := .agg #[.int .i64 9, .string u, .string nt, .int .i64 ts, .string tn, .int .i64 0, .string ⟨#[]⟩, .string tx, .int .i64 q, .slice none 0 0]) ?_ rfl ⟨⟨9, u, nt, ts, tn, 0, ⟨#[]⟩, tx, q, []⟩, none, 0, 0, rfl, mc_prop HU.out HT.out (by omega) htx (by omega) (by omega), OwR.nil _ _ _ _ _, HSF.out, HGF.out⟩
    simp [results, Tryd.results20, go_sem, kcz]
  · subst hkd
    have kq := Blk.cell kb1
    have kqf := Blk.frozen kb1
    go_wp2_with fail
    go_at_call 26
    refine (hS1.nxt 4 (by omega) (by omega)).mono ?_
    rintro e p1 ⟨q, rfl, qa, qb, hsp, hgp⟩
    have hSp1 := hS1.next hsp hgp
    have kbp1 := heap_grown hgp hn1.symm kb1
    have krp1 := heap_grown hgp hn3.symm kr1
    have hGp1 := hG1.trans hgp
    clear hgp hsp kb1 kr1 hS1 hG1
    have kq := Blk.cell kbp1
    have kqf := Blk.frozen kbp1
    have kw3 : (p1.setCell ⟨bc, 3, none⟩ (.int .i64 0)).heap[bc]? = some (.cells #[.int .i64 10, .string u, .string ⟨#[]⟩, .int .i64 0, .string tn, .int .i64 0, .string ⟨#[]⟩, .string ⟨#[]⟩, .int .i64 0, .slice none 0 0] 31 (0, 0)) := heap_set_near _ _ _ _ _ _ kbp1
    have kw4 : ((p1.setCell ⟨bc, 3, none⟩ (.int .i64 0)).setCell ⟨bc, 4, none⟩ (.string ⟨#[]⟩)).heap[bc]? = some (.cells #[.int .i64 10, .string u, .string ⟨#[]⟩, .int .i64 0, .string ⟨#[]⟩, .int .i64 0, .string ⟨#[]⟩, .string ⟨#[]⟩, .int .i64 0, .slice none 0 0] 31 (0, 0)) := heap_set_near _ _ _ _ _ _ kw3
    have kw8 : (((p1.setCell ⟨bc, 3, none⟩ (.int .i64 0)).setCell ⟨bc, 4, none⟩ (.string ⟨#[]⟩)).setCell ⟨bc, 8, none⟩ (.int .i64 (1 + q))).heap[bc]? = some (.cells #[.int .i64 10, .string u, .string ⟨#[]⟩, .int .i64 0, .string ⟨#[]⟩, .int .i64 0, .string ⟨#[]⟩, .string ⟨#[]⟩, .int .i64 (1 + q), .slice none 0 0] 31 (0, 0)) := heap_set_near _ _ _ _ _ _ kw4
    have kbs2 : (((p1.setCell ⟨bc, 3, none⟩ (.int .i64 0)).setCell ⟨bc, 4, none⟩ (.string ⟨#[]⟩)).setCell ⟨bc, 8, none⟩ (.int .i64 (1 + q))).heap[bc]? = _ := kw8
    have krs2 : (((p1.setCell ⟨bc, 3, none⟩ (.int .i64 0)).setCell ⟨bc, 4, none⟩ (.string ⟨#[]⟩)).setCell ⟨bc, 8, none⟩ (.int .i64 (1 + q))).heap[W.heap.size]? = _ := ((heap_set_far _ _ _ _ _ hn5.symm).trans ((heap_set_far _ _ _ _ _ hn5.symm).trans ((heap_set_far _ _ _ _ _ hn5.symm).trans krp1)))
    have hSs2 := (((hSp1.set (i := 3) hn1 hbs.1 (.int .i64 0)).set (i := 4) hn1 hbs.1 (.string ⟨#[]⟩)).set (i := 8) hn1 hbs.1 (.int .i64 (1 + q)))
    have hGs2 := (grown_setN (i := 8) (grown_setN (i := 4) (grown_setN (i := 3) hGp1 hbs.2.2 (.int .i64 0)) hbs.2.2 (.string ⟨#[]⟩)) hbs.2.2 (.int .i64 (1 + q)))
    clear kbp1 krp1 hSp1 hGp1 kw3 kw4 kw8
    go_upto_region 20 with fail
    clear kq kqf
    generalize (((p1.setCell ⟨bc, 3, none⟩ (.int .i64 0)).setCell ⟨bc, 4, none⟩ (.string ⟨#[]⟩)).setCell ⟨bc, 8, none⟩ (.int .i64 (1 + q))) = y12 at *
    have HSE := Lib.hid hSs2
    have HGE := Lib.hid hGs2
    clear hSs2 hGs2
    have kcb := Blk.cell kbs2
    have kfr := Blk.frozen krs2
    have kcr0 := Blk.cell krs2
    have kcz := Blk.cell (ten_kz krs2 (.int .i64 10) (.string u) (.string ⟨#[]⟩) (.int .i64 0) (.string ⟨#[]⟩) (.int .i64 0) (.string ⟨#[]⟩) (.string ⟨#[]⟩) (.int .i64 (1 + q)) (.slice none 0 0))
    have HSF := Lib.hid (SG.ten HSE.out hn3 hbs.2.1 (.int .i64 10) (.string u) (.string ⟨#[]⟩) (.int .i64 0) (.string ⟨#[]⟩) (.int .i64 0) (.string ⟨#[]⟩) (.string ⟨#[]⟩) (.int .i64 (1 + q)) (.slice none 0 0))
    have HGF := Lib.hid (grown_ten HGE.out (Nat.le_refl _) (.int .i64 10) (.string u) (.string ⟨#[]⟩) (.int .i64 0) (.string ⟨#[]⟩) (.int .i64 0) (.string ⟨#[]⟩) (.string ⟨#[]⟩) (.int .i64 (1 + q)) (.slice none 0 0))
    go_wp2_with fail
    refine bodyPost_ret (v := .agg #[.int .i64 10, .string u, .string ⟨#[]⟩, .int .i64 0, .string ⟨#[]⟩, .int .i64 0, .string ⟨#[]⟩, .string ⟨#[]⟩, .int .i64 (1 + q), .slice none 0 0]) ?_ rfl ⟨⟨10, u, ⟨#[]⟩, 0, ⟨#[]⟩, 0, ⟨#[]⟩, ⟨#[]⟩, 1 + q, []⟩, none, 0, 0, rfl, mc_close HU.out (by omega) (by omega), OwR.nil _ _ _ _ _, HSF.out, HGF.out⟩
    simp [results, Tryd.results20, go_sem, kcz]
end Go.Proofs.YtbeijpajodgpeaaDoor
