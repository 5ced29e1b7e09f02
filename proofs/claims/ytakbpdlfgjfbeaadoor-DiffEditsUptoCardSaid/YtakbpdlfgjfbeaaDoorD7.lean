/- The reference's table: Common. -/
import Derived.Test.YtakbpdlfgjfbeaaDoorTab
import Derived.Test.YtakbpdlfgjfbeaaDoorD1
import Derived.StillTailTactics
import Derived.IntWalk
namespace Go.Proofs.YtakbpdlfgjfbeaaDoor
open Go.RowKit
set_option linter.unusedSimpArgs false
set_option linter.unusedVariables false

theorem run_make_z {P : Program} {t e : TypeId} {i : TypeInfo} {z : Value} {by' : Nat} (ht : P.underlying t = some (.slice e)) (hi : P.info? e = some i) (hz : i.zero = some z) (hc : z.cells = #[z]) (hs : i.size = 1) (hy : i.bytes = by') (N : Int) (n : Nat) (hN : N = n) (hn : n ≤ 100000) (hb : by' ≤ 1000) (w : World) :
    (Instr.makeSlice t (.int .i64 N) (.int .i64 N)).run P w = .ok (.slice (some ⟨w.heap.size, 0, none⟩) n n) (w.alloc (.cells (madeCells #[z] n) e)) := by
  subst hN
  have hbn : by' * n ≤ 1000 * 100000 := Nat.mul_le_mul hb hn
  have e1 : (by' : Int) * (n : Int) = ((by' * n : Nat) : Int) := by simp
  have h := run_make (P := P) w t e i z ht hi hz .i64 .i64 n n (by omega) (by omega) (by rw [hy, e1]; omega) (by omega)
  simp only [Int.toNat_natCast, hs, Nat.mul_one, hc] at h
  exact h
theorem row_info : (Tryd.prog.info? 22).map (fun i => (i.zero, i.size, i.bytes)) = some (some (.slice none 0 0), 1, 24) := by kernel_rfl

/-- the rows from k on are done, and the last column of each -/
def Rows (x y : List ByteArray) (k : Nat) (f : Nat → Nat → Nat) : Prop := (∀ i j, k ≤ i → i ≤ x.length → j ≤ y.length → f i j = LT x y i j) ∧ ∀ i, i ≤ x.length → f i y.length = 0
/-- the rows behind k are done, and row k from l on -/
def Done (x y : List ByteArray) (k l : Nat) (f : Nat → Nat → Nat) : Prop := (∀ i j, k < i → i ≤ x.length → j ≤ y.length → f i j = LT x y i j) ∧ (∀ j, l ≤ j → j ≤ y.length → f k j = LT x y k j) ∧ ∀ i, i ≤ x.length → f i y.length = 0
theorem Rows.start (x y : List ByteArray) {f : Nat → Nat → Nat} (h : ∀ i j, f i j = 0) : Rows x y x.length f :=
  ⟨fun i j h1 h2 h3 => by rw [h, LT_end1 j h1], fun i _ => h i _⟩
theorem Done.start {x y : List ByteArray} {k : Nat} {f : Nat → Nat → Nat} (h : Rows x y (k + 1) f) (hk : k < x.length) : Done x y k y.length f :=
  ⟨fun i j h1 h2 h3 => h.1 i j h1 h2 h3, fun j h1 h2 => by
    obtain rfl : j = y.length := by omega
    rw [h.2 k (by omega), LT_end2 k (Nat.le_refl _)], h.2⟩
theorem Done.rows {x y : List ByteArray} {k : Nat} {f : Nat → Nat → Nat} (h : Done x y k 0 f) : Rows x y k f :=
  ⟨fun i j h1 h2 h3 => by
    by_cases e : i = k
    · subst e; exact h.2.1 j (Nat.zero_le _) h3
    · exact h.1 i j (by omega) h2 h3, h.2.2⟩
def upd (f : Nat → Nat → Nat) (k l v : Nat) : Nat → Nat → Nat := fun i j => if i = k ∧ j = l then v else f i j
theorem Done.step {x y : List ByteArray} {k l v : Nat} {f : Nat → Nat → Nat} (h : Done x y k (l + 1) f) (hl : l < y.length) (hv : v = LT x y k l) : Done x y k l (upd f k l v) := by
  refine ⟨fun i j h1 h2 h3 => ?_, fun j h1 h2 => ?_, fun i h1 => ?_⟩
  · unfold upd; rw [if_neg (by omega)]; exact h.1 i j h1 h2 h3
  · unfold upd
    by_cases e : j = l
    · subst e; rw [if_pos ⟨rfl, rfl⟩, hv]
    · rw [if_neg (by omega)]; exact h.2.1 j (by omega) h2
  · unfold upd; rw [if_neg (by omega)]; exact h.2.2 i h1
theorem upd_upd (f : Nat → Nat → Nat) (k l u v : Nat) : upd (upd f k l u) k l v = upd f k l v := by
  funext i j
  unfold upd
  split <;> simp_all

def RTab (w : World) (to_ ti : Nat) (K : IntKind) (x y : List ByteArray) (e : Ending) (w' : World) : Prop :=
  ∃ B b, e = .returned (.slice (some ⟨B, 0, none⟩) (x.length + 1) (x.length + 1)) ∧ Tab w' w.heap.size to_ ti K B (x.length + 1) (y.length + 1) b (fun _ => True) (LT x y) ∧ Below w.heap.size w w'

set_option maxRecDepth 100000 in
set_option maxHeartbeats 4000000 in
theorem rcommon_any (A : Option Addr) (n c : Nat) (x : List ByteArray) (A2 : Option Addr) (n2 c2 : Nat) (y : List ByteArray) (w : World) (hx : RdR RS 1 w A n c x) (hy : RdR RS 1 w A2 n2 c2 y) (hn : n ≤ 2000) (hn2 : n2 ≤ 2000) :
    Calls Tryd.prog 20 #[.slice A n c, .slice A2 n2 c2] w (RTab w 22 3 .i64 x y) := by
  obtain ⟨i0, hi0, hz0, hz1, hz2⟩ := info_parts row_info
  obtain ⟨i1, hi1, hy0, hy1, hy2⟩ := info_parts int_info
  obtain ⟨N, hN1, hN2⟩ : ∃ N, N ≤ n + 1 ∧ n + 1 ≤ N := ⟨n + 1, Nat.le_refl _, Nat.le_refl _⟩
  obtain ⟨M, hM1, hM2⟩ : ∃ M, M ≤ n2 + 1 ∧ n2 + 1 ≤ M := ⟨n2 + 1, Nat.le_refl _, Nat.le_refl _⟩
  have m0 := fun W : World => run_make_z (P := Tryd.prog) (t := 37) Tryd.underlying37 hi0 hz0 rfl hz1 hz2 ((n : Int) + 1) N (by omega) (by omega) (by omega) W
  have m1 := fun W : World => run_make_z (P := Tryd.prog) (t := 22) Tryd.underlying22 hi1 hy0 rfl hy1 hy2 ((n2 : Int) + 1) M (by omega) (by omega) (by omega) W
  have hlx := Lib.hid hx.len
  have hly := Lib.hid hy.len
  have HX := Lib.hid hx
  have HY := Lib.hid hy
  clear hx hy
  have hT0 := Tab.made w w.heap.size 22 3 .i64 N M (.slice none 0 0) (Nat.le_refl _)
  go_enter Tryd.func20, Tryd.ntmps20
  go_wp2
  go_loopw [6] (fun v6 wr => ∃ (k : Nat) (b : Nat → Nat), k ≤ N ∧ v6 = .int .i64 k ∧ Tab wr w.heap.size 22 3 .i64 w.heap.size N M b (· < k) (fun _ _ => 0) ∧ Below w.heap.size w wr) (fun v6 _ => N - (intOf v6).toNat)
  case atStart => exact ⟨0, _, Nat.zero_le _, rfl, hT0.mono (fun i _ h => absurd h (Nat.not_lt_zero _)), (Below.refl _ _).alloc (Nat.le_refl _) _⟩
  case round =>
    obtain ⟨k, b, hk, rfl, hT, hbw⟩ := hrel
    clear hT0
    by_cases hlt : k < N
    · have hf := hT.frB k
      have hz := hbw.size
      have hi1 : (k : Int) ≤ (n : Int) := by omega
      have hi2 : (k : Int) < (N : Int) := by omega
      have hi3 : w.heap.size < wr.heap.size := hT.B_lt
      have HP := ((hT.alloc (.cells (madeCells #[.int .i64 0] M) 3)).put hlt (r := wr.heap.size) (fun _ => 0) (by rw [heap_alloc_get, if_pos rfl, rowZ_made]; rfl) hz (by omega) (fun i hi hd => Nat.ne_of_lt (hT.b_lt hi hd)) (by omega))
      rw [World.setCell_alloc_past _ _ _ _ hi3] at HP
      replace HP := Lib.hid HP
      obtain ⟨v0, hv0⟩ := hT.has hlt
      go_wp2
      go_roundw
      case rel => exact ⟨k + 1, _, by omega, by go_num, (HP.out.mono (fun i _ h => by omega)).same (fun i j _ _ _ => by split <;> rfl), by (refine bel_out ?_; (focus (repeat' first | (with_reducible refine bel_refl ?_) | with_reducible assumption | with_reducible refine bel_drew ?_ | with_reducible refine bel_drewN _ ?_ | with_reducible refine bel_alloc _ ?_ | with_reducible refine bel_set ?_ _ ?_ | (with_reducible apply bel_call; with_reducible assumption) | (with_reducible apply bel_owg; with_reducible assumption; (focus omega)) | with_reducible exact Nat.le_refl _ | omega | (simp; done) | (simp; omega))))⟩
      case measure => (simp [intOf]; try omega)
    · obtain rfl : N = k := by omega
      have hi2 : (n : Int) < (N : Int) := by omega
      have hdN : decide (N ≤ n) = false := by simp; omega
      clear hlt hk
      go_wp2
      go_loopw [7] (fun v7 wr => ∃ (z : Int) (f : Nat → Nat → Nat), -1 ≤ z ∧ z < n ∧ v7 = .int .i64 z ∧ Tab wr w.heap.size 22 3 .i64 w.heap.size N M b (fun _ => True) f ∧ Hid (Rows x y (z + 1).toNat f) ∧ Below w.heap.size w wr) (fun v7 _ => (intOf v7 + 1).toNat)
      case atStart => exact ⟨_, _, by omega, by omega, rfl, hT.mono (fun i hi _ => hi), Lib.hid (by rw [show ((n : Int) - 1 + 1).toNat = n by omega, hlx.out]; exact Rows.start x y (fun _ _ => rfl)), hbw⟩
      case round =>
        obtain ⟨z, f, hz1, hz2, rfl, hT, HR, hbw⟩ := hrel
        by_cases hz : 0 ≤ z
        · obtain ⟨k, rfl⟩ := Int.eq_ofNat_of_zero_le hz
          have hk1 : k < n := by omega
          have hk2 : (k + 1 : Nat) < N := by omega
          go_wp2
          go_loopw [8] (fun v8 wr => ∃ (z : Int) (f : Nat → Nat → Nat), -1 ≤ z ∧ z < n2 ∧ v8 = .int .i64 z ∧ Tab wr w.heap.size 22 3 .i64 w.heap.size N M b (fun _ => True) f ∧ Hid (Done x y k (z + 1).toNat f) ∧ Below w.heap.size w wr) (fun v8 _ => (intOf v8 + 1).toNat)
          case atStart => exact ⟨_, _, by omega, by omega, rfl, hT, Lib.hid (by rw [show ((n2 : Int) - 1 + 1).toNat = n2 by omega, hly.out]; have := HR.out; rw [show ((k : Int) + 1).toNat = k + 1 by omega] at this; exact Done.start this (by have := hlx.out; omega)), hbw⟩
          case round =>
            obtain ⟨z, f, hz1, hz2, rfl, hT, HD, hbw⟩ := hrel
            clear HR
            by_cases hz : 0 ≤ z
            · obtain ⟨l, rfl⟩ := Int.eq_ofNat_of_zero_le hz
              have hl1 : l < n2 := by omega
              obtain ⟨bk, hbk⟩ : ∃ q, q = b k := ⟨_, rfl⟩
              obtain ⟨bk1, hbk1⟩ : ∃ q, q = b (k + 1) := ⟨_, rfl⟩
              have e1 := hT.slot (i := k) (by omega) trivial
              have e2 := hT.slot (i := k + 1) (by omega) trivial
              have e3 := hT.at_ (i := k + 1) (j := l) (by omega) trivial (by omega)
              have e4 := hT.at_ (i := k) (j := l + 1) (by omega) trivial (by omega)
              have e5 := hT.at_ (i := k + 1) (j := l + 1) (by omega) trivial (by omega)
              have e6 := hT.at_ (i := k) (j := l) (by omega) trivial (by omega)
              have e7 := hT.frb (i := k) (by omega) trivial l
              have hne : bk ≠ bk1 := by
                intro e
                have := hT.inj k (k + 1) (by omega) (by omega) trivial trivial (by rw [← hbk, ← hbk1, e])
                omega
              have hneB : bk ≠ w.heap.size := by rw [hbk]; exact (hT.rows k (by omega) trivial).2.1
              have hneC : bk1 ≠ w.heap.size := by rw [hbk1]; exact (hT.rows (k + 1) (by omega) trivial).2.1
              have S1 := fun v : Nat => hT.store (i := k) (j := l) (by omega) trivial v
              rw [← hbk] at e1 e4 e6 e7
              rw [← hbk1] at e2 e3 e5
              simp only [← hbk] at S1
              have hi1 : (k : Int) < (N : Int) := by omega
              have hi2 : (k : Int) + 1 < (N : Int) := by omega
              have hi3 : (l : Int) < (M : Int) := by omega
              have hi4 : (l : Int) + 1 < (M : Int) := by omega
              have g1 : (0 : Int) ≤ (k : Int) + 1 := by omega
              have g2 : (0 : Int) ≤ (l : Int) + 1 := by omega
              have p1 : (k : Int) < (n : Int) := by omega
              have p2 : (l : Int) < (n2 : Int) := by omega
              have p3 : (0 : Int) ≤ (k : Int) := by omega
              have p4 : (0 : Int) ≤ (l : Int) := by omega
              obtain ⟨bx, ox, rfl, hbx, hcx⟩ := RdS.opened HX.out (by omega)
              obtain ⟨by_, oy, rfl, hby, hcy⟩ := RdS.opened HY.out (by omega)
              have hcx1 := (hbw.cell (p := ⟨bx, ox + k, none⟩) hbx).trans (hcx k hk1)
              have hcy1 := (hbw.cell (p := ⟨by_, oy + l, none⟩) hby).trans (hcy l hl1)
              clear hcx hcy
              have hle1 : f (k + 1) (l + 1) ≤ 2000 := by
                have h1 := HD.out.1 (k + 1) (l + 1) (by omega) (by have := hlx.out; omega) (by have := hly.out; omega)
                rw [h1]
                have := LT_le x y (k + 1) (l + 1)
                have := hlx.out
                omega
              have HM : Hid (max ((f (k + 1) l : Nat) : Int) ((f k (l + 1) : Nat) : Int) = ((max (f (k + 1) l) (f k (l + 1)) : Nat) : Int)) := Lib.hid (by omega)
              have q1 : IntKind.i64.wrap ((k : Int) + 1) = (k : Int) + 1 := IntWalk.i64_in _ (by omega)
              have q2 : IntKind.i64.wrap ((l : Int) + 1) = (l : Int) + 1 := IntWalk.i64_in _ (by omega)
              have q3 : ((k : Int) + 1).toNat = k + 1 := by omega
              have q4 : ((l : Int) + 1).toNat = l + 1 := by omega
              have q5 : IntKind.i64.wrap ((f (k + 1) (l + 1) : Int) + 1) = (f (k + 1) (l + 1) : Int) + 1 := IntWalk.i64_in _ (by omega)
              have HS := Lib.hid S1
              have HB := Lib.hid hbk
              have HB1 := Lib.hid hbk1
              clear S1 hbk hbk1 hT
              go_wp2_with fail
              go_still_tail 23, (by kernel_rfl)
              go_wp2_with fail
              rw [HM.out]
              have hT2 : Tab (wr.setCell ⟨bk, l, none⟩ (.int .i64 ((max (f (k + 1) l) (f k (l + 1)) : Nat) : Int))).drew w.heap.size 22 3 .i64 w.heap.size N M b (fun _ => True) (upd f k l (max (f (k + 1) l) (f k (l + 1)))) := (HS.out (max (f (k + 1) l) (f k (l + 1)))).drew
              have hbk0 : w.heap.size ≤ bk := by rw [HB.out]; exact (hT2.rows k (by omega) trivial).1
              have hb2 : Below w.heap.size w (wr.setCell ⟨bk, l, none⟩ (.int .i64 ((max (f (k + 1) l) (f k (l + 1)) : Nat) : Int))).drew := (hbw.setCell hbk0 _).drew
              have hx2 : (wr.setCell ⟨bk, l, none⟩ (.int .i64 ((max (f (k + 1) l) (f k (l + 1)) : Nat) : Int))).drew.cell? ⟨bx, ox + k, none⟩ = some (.string (x.getD k ByteArray.empty)) := (World.cell?_setCell_other _ _ _ _ (by intro e; injection e with e _ _; omega)).trans hcx1
              have hy2 : (wr.setCell ⟨bk, l, none⟩ (.int .i64 ((max (f (k + 1) l) (f k (l + 1)) : Nat) : Int))).drew.cell? ⟨by_, oy + l, none⟩ = some (.string (y.getD l ByteArray.empty)) := (World.cell?_setCell_other _ _ _ _ (by intro e; injection e with e _ _; omega)).trans hcy1
              clear e1 e2 e3 e4 e5 e6 e7 hcx1 hcy1 HS hbw
              generalize (wr.setCell ⟨bk, l, none⟩ (.int .i64 ((max (f (k + 1) l) (f k (l + 1)) : Nat) : Int))).drew = w2 at *
              have hkx : k < x.length := by have := hlx.out; omega
              have hly1 : l < y.length := by have := hly.out; omega
              have ex : x.getD k ByteArray.empty = x[k] := by simp [List.getD, List.getElem?_eq_getElem hkx]
              have ey : y.getD l ByteArray.empty = y[l] := by simp [List.getD, List.getElem?_eq_getElem hly1]
              rw [ex] at hx2
              rw [ey] at hy2
              clear ex ey
              by_cases hxy : x[k] = y[l]
              · have hq : (x[k].toList == y[l].toList) = true := by rw [str_beq]; simpa using hxy
                have HV := Lib.hid (LT_hit hkx hly1 hxy)
                have f1 : f (k + 1) (l + 1) = LT x y (k + 1) (l + 1) := HD.out.1 (k + 1) (l + 1) (by omega) (by omega) (by omega)
                have HV2 : Hid (f (k + 1) (l + 1) + 1 = LT x y k l) := Lib.hid (by rw [HV.out, f1])
                have HD3 : Hid (Done x y k l (upd f k l (f (k + 1) (l + 1) + 1))) := Lib.hid (Done.step (by have := HD.out; rwa [show ((l : Int) + 1).toNat = l + 1 by omega] at this) hly1 HV2.out)
                clear HV f1 hxy HV2
                generalize x[k] = xk at *
                generalize y[l] = yl at *
                go_wp2_with fail
                go_quiet (fail)
                go_wp2_with fail
                have hT3 := hT2.drewN nq
                have hb3 := below_drewN hb2 nq
                clear hx2 hy2 hq hT2 hb2
                generalize w2.drewN nq = w3 at *
                have e1 := hT3.slot (i := k) (by omega) trivial
                have e2 := hT3.slot (i := k + 1) (by omega) trivial
                have e5 := hT3.at_ (i := k + 1) (j := l + 1) (by omega) trivial (by omega)
                have e6 := hT3.at_ (i := k) (j := l) (by omega) trivial (by omega)
                have e7 := hT3.frb (i := k) (by omega) trivial l
                rw [show upd f k l (max (f (k + 1) l) (f k (l + 1))) (k + 1) (l + 1) = f (k + 1) (l + 1) by unfold upd; rw [if_neg (by omega)]] at e5
                rw [← HB.out] at e1 e6 e7
                rw [← HB1.out] at e2 e5
                have S2 := (hT3.store (i := k) (j := l) (by omega) trivial (f (k + 1) (l + 1) + 1)).drew
                rw [← HB.out, show ((f (k + 1) (l + 1) + 1 : Nat) : Int) = (f (k + 1) (l + 1) : Int) + 1 by omega] at S2
                have HS := Lib.hid S2
                clear S2 hT3
                go_still_tail 16, (by kernel_rfl)
                go_wp2_with fail
                go_roundw
                case rel => exact ⟨(l : Int) - 1, upd f k l (f (k + 1) (l + 1) + 1), by omega, by omega, rfl, by rw [← upd_upd f k l (max (f (k + 1) l) (f k (l + 1)))]; exact HS.out, Lib.hid (by rw [show ((l : Int) - 1 + 1).toNat = l by omega]; exact HD3.out), (hb3.setCell hbk0 _).drew⟩
                case measure => (simp [intOf]; try omega)
              · have hq : (x[k].toList == y[l].toList) = false := by rw [str_beq]; simpa using hxy
                have HV := Lib.hid (LT_miss hkx hly1 hxy)
                have f1 : f (k + 1) l = LT x y (k + 1) l := HD.out.1 (k + 1) l (by omega) (by omega) (by omega)
                have f2 : f k (l + 1) = LT x y k (l + 1) := HD.out.2.1 (l + 1) (by omega) (by omega)
                have HV2 : Hid (max (f (k + 1) l) (f k (l + 1)) = LT x y k l) := Lib.hid (by rw [HV.out, f1, f2])
                have HD3 : Hid (Done x y k l (upd f k l (max (f (k + 1) l) (f k (l + 1))))) := Lib.hid (Done.step (by have := HD.out; rwa [show ((l : Int) + 1).toNat = l + 1 by omega] at this) hly1 HV2.out)
                clear HV f1 f2 hxy HV2
                generalize x[k] = xk at *
                generalize y[l] = yl at *
                go_wp2_with fail
                go_quiet (fail)
                go_wp2_with fail
                have hT3 := hT2.drewN nq
                have hb3 := below_drewN hb2 nq
                go_roundw
                case rel => exact ⟨(l : Int) - 1, _, by omega, by omega, rfl, hT3, Lib.hid (by rw [show ((l : Int) - 1 + 1).toNat = l by omega]; exact HD3.out), hb3⟩
                case measure => (simp [intOf]; try omega)
            · have hz3 : z = -1 := by omega
              have HD4 : Hid (Rows x y k f) := Lib.hid (by have := HD.out; rw [hz3] at this; exact this.rows)
              clear HD hz3
              go_wp2
              go_roundw
              case rel => exact ⟨(k : Int) - 1, f, by omega, by omega, rfl, hT, Lib.hid (by rw [show ((k : Int) - 1 + 1).toNat = k by omega]; exact HD4.out), hbw⟩
              case measure => (simp [intOf]; try omega)
        · have hz3 : z = -1 := by omega
          have HD4 : Hid (Rows x y 0 f) := Lib.hid (by have := HR.out; rw [hz3] at this; exact this)
          have hT3 : Hid (Tab wr w.heap.size 22 3 .i64 w.heap.size (x.length + 1) (y.length + 1) b (fun _ => True) (LT x y)) := Lib.hid (by
            have h1 := hlx.out
            have h2 := hly.out
            have e1 : N = x.length + 1 := by omega
            have e2 : M = y.length + 1 := by omega
            rw [← e1, ← e2]
            exact hT.same fun i j hi _ hj => HD4.out.1 i j (Nat.zero_le _) (by omega) (by omega))
          have e1 : Hid (N = x.length + 1) := Lib.hid (by have := hlx.out; omega)
          clear HR hz3 hT
          go_wp2
          go_ret
          exact ⟨_, b, by rw [← e1.out]; rfl, hT3.out, hbw⟩
end Go.Proofs.YtakbpdlfgjfbeaaDoor
