/- The program's table: common. -/
import Derived.Test.YtakbpdlfgjfbeaaDoorD7
import Derived.BigRegion
namespace Go.Proofs.YtakbpdlfgjfbeaaDoor
open Go.RowKit
set_option linter.unusedSimpArgs false
set_option linter.unusedVariables false

theorem int32_info : (Tryd.prog.info? 21).map (fun i => (i.zero, i.size, i.bytes)) = some (some (.int .i32 0), 1, 4) := by kernel_rfl
theorem row32_info : (Tryd.prog.info? 61).map (fun i => (i.zero, i.size, i.bytes)) = some (some (.slice none 0 0), 1, 24) := by kernel_rfl

/-- row k, from l on, is done -/
def RowOk (x y : List ByteArray) (k l : Nat) (g : Nat → Nat) : Prop := (∀ j, l ≤ j → j ≤ y.length → g j = LT x y k j)
theorem RowOk.step {x y : List ByteArray} {k l v : Nat} {g : Nat → Nat} (h : RowOk x y k (l + 1) g) (hv : v = LT x y k l) : RowOk x y k l (fun j => if j = l then v else g j) := by
  intro j h1 h2
  by_cases e : j = l
  · subst e; simp [hv]
  · simp only [e, if_false]; exact h j (by omega) h2
/-- a row that is filled, beside the table -/
structure RowAt (w : World) (base ti : Nat) (K : IntKind) (B M r : Nat) (N : Nat) (b : Nat → Nat) (d : Nat → Prop) (g : Nat → Nat) : Prop where
  lo : base ≤ r
  ne : r ≠ B
  nb : ∀ i, i < N → d i → b i ≠ r
  hp : w.heap[r]? = some (.cells (rowZ M (fun j => .int K (g j : Int))) ti (0, 0))
theorem RowAt.at_ {w : World} {base ti : Nat} {K : IntKind} {B M r N : Nat} {b : Nat → Nat} {d : Nat → Prop} {g : Nat → Nat} (h : RowAt w base ti K B M r N b d g) {j : Nat} (hj : j < M) : w.cell? ⟨r, j, none⟩ = some (.int K (g j : Int)) := by
  rw [cell_of_row _ _ j _ _ _ h.hp, rowZ_get, if_pos hj]
theorem RowAt.fr {w : World} {base ti : Nat} {K : IntKind} {B M r N : Nat} {b : Nat → Nat} {d : Nat → Prop} {g : Nat → Nat} (h : RowAt w base ti K B M r N b d g) (j : Nat) : w.frozen? ⟨r, j, none⟩ = false := Blk.frozen h.hp j
theorem RowAt.store {w : World} {base ti : Nat} {K : IntKind} {B M r N : Nat} {b : Nat → Nat} {d : Nat → Prop} {g : Nat → Nat} (h : RowAt w base ti K B M r N b d g) (j v : Nat) : RowAt (w.setCell ⟨r, j, none⟩ (.int K (v : Int))) base ti K B M r N b d (fun i => if i = j then v else g i) := by
  refine ⟨h.lo, h.ne, h.nb, ?_⟩
  rw [heap_set_near _ _ _ _ _ _ h.hp, rowZ_set]
  congr 2
  refine rowZ_congr fun i _ => ?_
  by_cases e : i = j <;> simp [e]
theorem RowAt.drewN {w : World} {base ti : Nat} {K : IntKind} {B M r N : Nat} {b : Nat → Nat} {d : Nat → Prop} {g : Nat → Nat} (h : RowAt w base ti K B M r N b d g) (k : Nat) : RowAt (w.drewN k) base ti K B M r N b d g := ⟨h.lo, h.ne, h.nb, h.hp⟩
theorem RowAt.drew {w : World} {base ti : Nat} {K : IntKind} {B M r N : Nat} {b : Nat → Nat} {d : Nat → Prop} {g : Nat → Nat} (h : RowAt w base ti K B M r N b d g) : RowAt w.drew base ti K B M r N b d g := ⟨h.lo, h.ne, h.nb, h.hp⟩

set_option maxRecDepth 100000 in
set_option maxHeartbeats 4000000 in
theorem common_any (A : Option Addr) (n c : Nat) (x : List ByteArray) (A2 : Option Addr) (n2 c2 : Nat) (y : List ByteArray) (w : World) (hx : RdR RS 1 w A n c x) (hy : RdR RS 1 w A2 n2 c2 y) (hn : n ≤ 2000) (hn2 : n2 ≤ 2000) :
    Calls Tryd.prog 33 #[.slice A n c, .slice A2 n2 c2] w (RTab w 61 21 .i32 x y) := by
  obtain ⟨i0, hi0, hz0, hz1, hz2⟩ := info_parts row32_info
  obtain ⟨i1, hi1, hy0, hy1, hy2⟩ := info_parts int32_info
  obtain ⟨N, hN1, hN2⟩ : ∃ N, N ≤ n + 1 ∧ n + 1 ≤ N := ⟨n + 1, Nat.le_refl _, Nat.le_refl _⟩
  obtain ⟨M, hM1, hM2⟩ : ∃ M, M ≤ n2 + 1 ∧ n2 + 1 ≤ M := ⟨n2 + 1, Nat.le_refl _, Nat.le_refl _⟩
  have m0 := fun W : World => run_make_z (P := Tryd.prog) (t := 59) Tryd.underlying59 hi0 hz0 rfl hz1 hz2 ((n : Int) + 1) N (by omega) (by omega) (by omega) W
  have m1 := fun W : World => run_make_z (P := Tryd.prog) (t := 61) Tryd.underlying61 hi1 hy0 rfl hy1 hy2 ((n2 : Int) + 1) M (by omega) (by omega) (by omega) W
  have hlx := Lib.hid hx.len
  have hly := Lib.hid hy.len
  have HX := Lib.hid hx
  have HY := Lib.hid hy
  clear hx hy
  have hT0 := Tab.made w w.heap.size 61 21 .i32 N M (.slice none 0 0) (Nat.le_refl _)
  have HP := ((hT0.alloc (.cells (madeCells #[.int .i32 0] M) 21)).put (k := n) (by omega) (r := w.heap.size + 1) (fun _ => 0) (by rw [heap_alloc_get, if_pos (by rw [size_alloc_]), rowZ_made]; rfl) (by omega) (by omega) (fun i hi hd => hd.elim) (fun h => h))
  rw [World.setCell_alloc_past _ _ _ _ (by rw [size_alloc_]; omega), World.setCell_alloc_at _ _ _ _ _ rfl] at HP
  replace HP := Lib.hid HP
  have hv0 : (madeCells #[.slice none 0 0] N)[n]? = some (.slice none 0 0) := by rw [rowZ_made, rowZ_get, if_pos (by omega)]
  have hi1' : (n : Int) < (N : Int) := by omega
  go_enter Tryd.func33, Tryd.ntmps33
  go_wp2
  go_loopw [6] (fun v6 wr => ∃ (z : Int) (b : Nat → Nat), -1 ≤ z ∧ z < n ∧ v6 = .int .i64 z ∧ Tab wr w.heap.size 61 21 .i32 w.heap.size N M b (fun i => z < (i : Int)) (LT x y) ∧ Below w.heap.size w wr) (fun v6 _ => (intOf v6 + 1).toNat)
  case atStart => exact ⟨_, _, by omega, by omega, rfl, (HP.out.mono (fun i hi hd => Or.inr (by omega))).same (fun i j hi hd hj => by
    rw [LT_end1 j (by have := hlx.out; omega)]; split <;> rfl), ((Below.refl _ _).alloc (Nat.le_refl _) _).alloc (by rw [size_alloc_]; omega) _⟩
  case round =>
    obtain ⟨z, b, hz1, hz2, rfl, hT, hbw⟩ := hrel
    clear hT0 HP hv0
    by_cases hz : 0 ≤ z
    · obtain ⟨k, rfl⟩ := Int.eq_ofNat_of_zero_le hz
      have hk1 : k < n := by omega
      obtain ⟨bk1, hbk1⟩ : ∃ q, q = b (k + 1) := ⟨_, rfl⟩
      have e2 := hT.slot (i := k + 1) (by omega) (by omega)
      have hsz : w.heap.size < wr.heap.size := hT.B_lt
      rw [← hbk1] at e2
      have HT := Lib.hid hT
      have HB1 := Lib.hid hbk1
      have g1 : (0 : Int) ≤ (k : Int) + 1 := by omega
      have g3 : (k : Int) + 1 < (N : Int) := by omega
      have g4 : (0 : Int) ≤ (k : Int) := by omega
      have q1 : IntKind.i64.wrap ((k : Int) + 1) = (k : Int) + 1 := IntWalk.i64_in _ (by omega)
      have q3 : ((k : Int) + 1).toNat = k + 1 := by omega
      clear hbk1 hT
      go_wp2_with fail
      go_region
      go_wp2_with fail
      have hT2 : Tab (wr.alloc (.cells (madeCells #[.int .i32 0] M) 21)).drew w.heap.size 61 21 .i32 w.heap.size N M b (fun i => (k : Int) < (i : Int)) (LT x y) := (HT.out.alloc _).drew
      have hR2 : RowAt (wr.alloc (.cells (madeCells #[.int .i32 0] M) 21)).drew w.heap.size 21 .i32 w.heap.size M wr.heap.size N b (fun i => (k : Int) < (i : Int)) (fun _ => 0) :=
        ⟨by omega, by omega, fun i hi hd => Nat.ne_of_lt (HT.out.b_lt hi hd), by
          show (wr.alloc (.cells (madeCells #[.int .i32 0] M) 21)).heap[wr.heap.size]? = _
          rw [heap_alloc_get, if_pos rfl, rowZ_made]; rfl⟩
      have hb2 : Below w.heap.size w (wr.alloc (.cells (madeCells #[.int .i32 0] M) 21)).drew := (hbw.alloc (by omega) _).drew
      clear e2 HT hbw q1 q3
      have hsz2 : wr.heap.size < (wr.alloc (.cells (madeCells #[.int .i32 0] M) 21)).drew.heap.size := by show _ < (wr.alloc _).heap.size; rw [size_alloc_]; omega
      generalize (wr.alloc (.cells (madeCells #[.int .i32 0] M) 21)).drew = w2 at *
      generalize wr.heap.size = r at *
      go_loopw [9] (fun v9 wr => ∃ (z : Int) (g : Nat → Nat), -1 ≤ z ∧ z < n2 ∧ v9 = .int .i64 z ∧ Tab wr w.heap.size 61 21 .i32 w.heap.size N M b (fun i => (k : Int) < (i : Int)) (LT x y) ∧ RowAt wr w.heap.size 21 .i32 w.heap.size M r N b (fun i => (k : Int) < (i : Int)) g ∧ Hid (RowOk x y k (z + 1).toNat g) ∧ Below w.heap.size w wr) (fun v9 _ => (intOf v9 + 1).toNat)
      case atStart => exact ⟨_, _, by omega, by omega, rfl, hT2, hR2, Lib.hid (by rw [show ((n2 : Int) - 1 + 1).toNat = n2 by omega, hly.out]; intro j h1 h2; rw [LT_end2 k h1]), hb2⟩
      case round =>
        obtain ⟨z, g, hz1, hz2, rfl, hT, hR, HG, hbw⟩ := hrel
        clear hT2 hR2 hb2 hsz2
        by_cases hz : 0 ≤ z
        · obtain ⟨l, rfl⟩ := Int.eq_ofNat_of_zero_le hz
          have hl1 : l < n2 := by omega
          have hkx : k < x.length := by have := hlx.out; omega
          have hly1 : l < y.length := by have := hly.out; omega
          have e3 := hT.at_ (i := k + 1) (j := l) (by omega) (by omega) (by omega)
          have e5 := hT.at_ (i := k + 1) (j := l + 1) (by omega) (by omega) (by omega)
          rw [← HB1.out] at e3 e5
          have e4 := hR.at_ (j := l + 1) (by omega)
          have e6 := hR.at_ (j := l) (by omega)
          have e7 := hR.fr l
          have g2 : (0 : Int) ≤ (l : Int) + 1 := by omega
          have p1 : (k : Int) < (n : Int) := by omega
          have p2 : (l : Int) < (n2 : Int) := by omega
          have p4 : (0 : Int) ≤ (l : Int) := by omega
          have p5 : (l : Int) < (M : Int) := by omega
          have p6 : (l : Int) + 1 < (M : Int) := by omega
          obtain ⟨bx, ox, rfl, hbx, hcx⟩ := RdS.opened HX.out (by omega)
          obtain ⟨by_, oy, rfl, hby, hcy⟩ := RdS.opened HY.out (by omega)
          have hcx1 := (hbw.cell (p := ⟨bx, ox + k, none⟩) hbx).trans (hcx k hk1)
          have hcy1 := (hbw.cell (p := ⟨by_, oy + l, none⟩) hby).trans (hcy l hl1)
          clear hcx hcy
          have ex : x.getD k ByteArray.empty = x[k] := by simp [List.getD, List.getElem?_eq_getElem hkx]
          have ey : y.getD l ByteArray.empty = y[l] := by simp [List.getD, List.getElem?_eq_getElem hly1]
          rw [ex] at hcx1
          rw [ey] at hcy1
          clear ex ey
          have HS := Lib.hid fun v : Nat => (⟨hT.far (.int .i32 (v : Int)) (i := l) hR.ne (fun i hi hd e => hR.nb i hi hd e.symm), hR.store l v, hbw.setCell (p := ⟨r, l, none⟩) hR.lo (.int .i32 (v : Int))⟩ : Tab (wr.setCell ⟨r, l, none⟩ (.int .i32 (v : Int))) w.heap.size 61 21 .i32 w.heap.size N M b (fun i => (k : Int) < (i : Int)) (LT x y) ∧ RowAt (wr.setCell ⟨r, l, none⟩ (.int .i32 (v : Int))) w.heap.size 21 .i32 w.heap.size M r N b (fun i => (k : Int) < (i : Int)) (fun i => if i = l then v else g i) ∧ Below w.heap.size w (wr.setCell ⟨r, l, none⟩ (.int .i32 (v : Int))))
          have HSL := hT.slot (i := k + 1) (by omega) (by omega)
          have q1 : IntKind.i64.wrap ((l : Int) + 1) = (l : Int) + 1 := IntWalk.i64_in _ (by omega)
          have q3 : ((l : Int) + 1).toNat = l + 1 := by omega
          clear hT hR
          by_cases hxy : x[k] = y[l]
          · have hq : (x[k].toList == y[l].toList) = true := by rw [str_beq]; simpa using hxy
            have HV := Lib.hid (LT_hit hkx hly1 hxy)
            have HG3 : Hid (RowOk x y k l (fun i => if i = l then LT x y (k + 1) (l + 1) + 1 else g i)) := Lib.hid (RowOk.step (by have := HG.out; rwa [show ((l : Int) + 1).toNat = l + 1 by omega] at this) HV.out.symm)
            have hle := LT_le x y (k + 1) (l + 1)
            have hle2 := hlx.out
            have r1 : (0 : Int) ≤ (LT x y (k + 1) (l + 1) : Int) := by omega
            have r2 : (LT x y (k + 1) (l + 1) : Int) ≤ 2000 := by omega
            have HS2 := HS.out (LT x y (k + 1) (l + 1) + 1)
            rw [show ((LT x y (k + 1) (l + 1) + 1 : Nat) : Int) = (LT x y (k + 1) (l + 1) : Int) + 1 by omega] at HS2
            clear HV hxy hle hle2
            generalize x[k] = xk at *
            generalize y[l] = yl at *
            replace HS2 := Lib.hid HS2
            clear HS e4
            go_wp2_with fail
            go_quiet (fail)
            go_wp2
            go_roundw
            case rel => exact ⟨(l : Int) - 1, _, by omega, by omega, rfl, HS2.out.1.drewN nq, HS2.out.2.1.drewN nq, Lib.hid (by rw [show ((l : Int) - 1 + 1).toNat = l by omega]; exact HG3.out), below_drewN HS2.out.2.2 nq⟩
            case measure => (simp [intOf]; try omega)
          · have hq : (x[k].toList == y[l].toList) = false := by rw [str_beq]; simpa using hxy
            have HV := Lib.hid (LT_miss hkx hly1 hxy)
            have eg : g (l + 1) = LT x y k (l + 1) := HG.out (l + 1) (by omega) (by omega)
            have HM : Hid (max ((LT x y (k + 1) l : Nat) : Int) ((g (l + 1) : Nat) : Int) = (LT x y k l : Int)) := Lib.hid (by rw [HV.out, eg]; omega)
            have HG3 : Hid (RowOk x y k l (fun i => if i = l then LT x y k l else g i)) := Lib.hid (RowOk.step (by have := HG.out; rwa [show ((l : Int) + 1).toNat = l + 1 by omega] at this) rfl)
            have HS2 := Lib.hid (HS.out (LT x y k l))
            clear HV hxy eg HS
            generalize x[k] = xk at *
            generalize y[l] = yl at *
            go_wp2_with fail
            go_quiet (fail)
            go_wp2_with fail
            have d3 : (wr.drewN nq).cell? ⟨bk1, l, none⟩ = _ := e3
            have d4 : (wr.drewN nq).cell? ⟨r, l + 1, none⟩ = _ := e4
            have d6 : (wr.drewN nq).cell? ⟨r, l, none⟩ = _ := e6
            have d7 : (wr.drewN nq).frozen? ⟨r, l, none⟩ = false := e7
            have HS3 := Lib.hid (⟨HS2.out.1.drewN nq, HS2.out.2.1.drewN nq, below_drewN HS2.out.2.2 nq⟩ : Tab ((wr.drewN nq).setCell ⟨r, l, none⟩ (.int .i32 (LT x y k l : Int))) w.heap.size 61 21 .i32 w.heap.size N M b (fun i => (k : Int) < (i : Int)) (LT x y) ∧ RowAt ((wr.drewN nq).setCell ⟨r, l, none⟩ (.int .i32 (LT x y k l : Int))) w.heap.size 21 .i32 w.heap.size M r N b (fun i => (k : Int) < (i : Int)) (fun i => if i = l then LT x y k l else g i) ∧ Below w.heap.size w ((wr.drewN nq).setCell ⟨r, l, none⟩ (.int .i32 (LT x y k l : Int))))
            clear HS2 e3 e4 e5 e6 e7 hq hcx1 hcy1
            generalize wr.drewN nq = w4 at *
            go_still_tail 13, (by kernel_rfl)
            go_wp2_with fail
            rw [HM.out]
            go_roundw
            case rel => exact ⟨(l : Int) - 1, _, by omega, by omega, rfl, HS3.out.1.drew, HS3.out.2.1.drew, Lib.hid (by rw [show ((l : Int) - 1 + 1).toNat = l by omega]; exact HG3.out), HS3.out.2.2.drew⟩
            case measure => (simp [intOf]; try omega)
        · have hz3 : z = -1 := by omega
          have HG4 : Hid (RowOk x y k 0 g) := Lib.hid (by have := HG.out; rw [hz3] at this; exact this)
          have h2 := hly.out
          have HP := Lib.hid ((hT.put (k := k) (by omega) g hR.hp hR.lo hR.ne hR.nb (by omega)))
          have hf := hT.frB k
          obtain ⟨v0, hv0⟩ := hT.has (i := k) (by omega)
          have g5 : (k : Int) < (N : Int) := by omega
          clear HG hz3 h2 hT hR
          go_wp2
          go_roundw
          case rel => exact ⟨(k : Int) - 1, _, by omega, by omega, rfl, (HP.out.mono (fun i _ hd => by omega)).same (fun i j hi hd hj => by
            by_cases e : i = k
            · subst e; simp only [if_true]; exact HG4.out j (Nat.zero_le _) (by have := hly.out; omega)
            · simp only [e, if_false]), hbw.setCell (Nat.le_refl _) _⟩
          case measure => (simp [intOf]; try omega)
    · have hz3 : z = -1 := by omega
      have hT3 : Hid (Tab wr w.heap.size 61 21 .i32 w.heap.size (x.length + 1) (y.length + 1) b (fun _ => True) (LT x y)) := Lib.hid (by
        have h1 := hlx.out
        have h2 := hly.out
        have e1 : N = x.length + 1 := by omega
        have e2 : M = y.length + 1 := by omega
        rw [← e1, ← e2]
        exact hT.mono fun i hi _ => by omega)
      have e1 : Hid (N = x.length + 1) := Lib.hid (by have := hlx.out; omega)
      clear hz3 hT
      go_wp2
      go_ret
      exact ⟨_, b, by rw [← e1.out]; rfl, hT3.out, hbw⟩
end Go.Proofs.YtakbpdlfgjfbeaaDoor
