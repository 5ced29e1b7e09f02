/- The program's Diff. -/
import Derived.Test.YtakbpdlfgjfbeaaDoorD2
import Derived.Test.YtakbpdlfgjfbeaaDoorD8
import Derived.Test.YtakbpdlfgjfbeaaDoorD10
import Derived.Test.YtakbpdlfgjfbeaaDoorD13
import Derived.Deep.RegionLaw
namespace Go.Proofs.YtakbpdlfgjfbeaaDoor
open Go.RowKit
set_option linter.unusedSimpArgs false
set_option linter.unusedVariables false

theorem dlines_n (s : ByteArray) (n : Nat) (x : List ByteArray) (m : Int) (hx : LN s = x) (hn : x.length = n) (hs : s.size ≤ 4294967280) (w : World) (hm : w.cell? ⟨0, 0, none⟩ = some (.int .i64 m)) :
    Calls Tryd.prog 16 #[.string s] w fun e w' => ∃ A c, e = .returned (.slice A n c) ∧ RdR RS 1 w' A n c x ∧ TyB w' 9 A ∧ Below w.heap.size w w' := by
  subst hx hn
  exact lines_any s m w (by omega) hm
theorem common_n (A : Option Addr) (n c : Nat) (x : List ByteArray) (A2 : Option Addr) (n2 c2 : Nat) (y : List ByteArray) (N M : Nat) (hN : N = x.length + 1) (hM : M = y.length + 1) (hn : n ≤ 2000) (hn2 : n2 ≤ 2000) (w : World) (hx : RdR RS 1 w A n c x) (hy : RdR RS 1 w A2 n2 c2 y) :
    Calls Tryd.prog 33 #[.slice A n c, .slice A2 n2 c2] w fun e w' => ∃ B b, e = .returned (.slice (some ⟨B, 0, none⟩) N N) ∧ Tab w' w.heap.size 61 21 .i32 B N M b (fun _ => True) (LT x y) ∧ Below w.heap.size w w' := by
  subst hN hM
  exact common_any A n c x A2 n2 c2 y w hx hy hn hn2

/-- edits that are returned, to be read -/
def RRead (w : World) (E : List Ed) (e : Ending) (w' : World) : Prop := ∃ A n c, e = .returned (.slice A n c) ∧ RdR RE 2 w' A n c E ∧ Below w.heap.size w w'
theorem RRead.of {w w' : World} {E : List Ed} {e : Ending} (h : REdits w E e w') : RRead w E e w' := by
  obtain ⟨A, n, c, h1, h2, h3⟩ := h
  obtain ⟨xs, h4, h5⟩ := h2.reads
  exact ⟨A, n, c, h1, ⟨h2.len, h2.cap, h2.max, xs, h4, fun k a hk => (h5 k a hk).re⟩, h3⟩
theorem scr_new (w : World) : Scr (w.alloc (.cells #[.slice none 0 0, .slice none 0 0, .slice none 0 0, .slice none 0 0] 57)) w.heap.size w.heap.size [] [] [] [] :=
  ⟨none, 0, 0, none, 0, 0, none, 0, 0, none, 0, 0, Nat.le_refl _, heap_alloc_new w _, OwR.nil _ _ _ _ _, OwR.nil _ _ _ _ _, OwR.nil _ _ _ _ _, OwR.nil _ _ _ _ _, Ne2.none_ _, Ne2.none_ _, Ne2.none_ _⟩

theorem ScrV.call {w w' : World} {base g : Nat} {Ae : Option Addr} {ne ce : Nat} {Ad : Option Addr} {nd cd : Nat} {Ai : Option Addr} {ni ci : Nat} {Ak : Option Addr} {nk ck : Nat} {E : List Ed} {D I K : List ByteArray}
    (h : ScrV w base g Ae ne ce Ad nd cd Ai ni ci Ak nk ck E D I K) (hb : Below w.heap.size w w') : ScrV w' base g Ae ne ce Ad nd cd Ai ni ci Ak nk ck E D I K :=
  ⟨h.gb, heap_call hb h.hp, h.e.call (REX.stay _) hb, h.d.call RS.stay hb, h.i.call RS.stay hb, h.k.call RS.stay hb, h.di, h.dk, h.ik⟩
theorem Scr.call {w w' : World} {base g : Nat} {E : List Ed} {D I K : List ByteArray} (h : Scr w base g E D I K) (hb : Below w.heap.size w w') : Scr w' base g E D I K := by
  obtain ⟨Ae, ne, ce, Ad, nd, cd, Ai, ni, ci, Ak, nk, ck, h⟩ := h
  exact ⟨Ae, ne, ce, Ad, nd, cd, Ai, ni, ci, Ak, nk, ck, h.call hb⟩
theorem ScrV.drewN {w : World} {base g : Nat} {Ae : Option Addr} {ne ce : Nat} {Ad : Option Addr} {nd cd : Nat} {Ai : Option Addr} {ni ci : Nat} {Ak : Option Addr} {nk ck : Nat} {E : List Ed} {D I K : List ByteArray}
    (h : ScrV w base g Ae ne ce Ad nd cd Ai ni ci Ak nk ck E D I K) (q : Nat) : ScrV (w.drewN q) base g Ae ne ce Ad nd cd Ai ni ci Ak nk ck E D I K :=
  h.call (below_drewN (Below.refl _ _) q)
theorem Scr.drewN {w : World} {base g : Nat} {E : List Ed} {D I K : List ByteArray} (h : Scr w base g E D I K) (q : Nat) : Scr (w.drewN q) base g E D I K := h.call (below_drewN (Below.refl _ _) q)

set_option maxRecDepth 100000 in
set_option maxHeartbeats 8000000 in
theorem diff_same (ta : ByteArray) (m : Int) (w : World) (hm : w.cell? ⟨0, 0, none⟩ = some (.int .i64 m)) (ha : ta.size ≤ 100000) :
    Calls Tryd.prog 14 #[.string ta, .string ta] w (RRead w (EI (put1 1 (LN ta)))) := by
  obtain ⟨x, hx⟩ : ∃ x, LN ta = x := ⟨_, rfl⟩
  obtain ⟨n, hn⟩ : ∃ n, x.length = n := ⟨_, rfl⟩
  have hn1 : (n : Int) ≤ 100000 := by have := LN_length ta; rw [hx, hn] at this; omega
  have h00 : 0 < w.heap.size := World.block_lt_of_cell? w _ hm
  have hq : (ta.toList == ta.toList) = true := by simp
  have HLA := Lib.hid fun W hW => dlines_n ta n x m hx hn (by omega) W hW
  have HM := Lib.hid hm
  have EP := Lib.hid (EIp1 [] x)
  rw [hx]
  clear hx ha hn hm
  go_enter Tryd.func14, Tryd.ntmps14
  go_wp2_with fail
  go_at_call 16
  refine (HLA.out _ HM.out).mono ?_
  rintro e w1 ⟨A1, c1, rfl, hx1, hty1, hb1⟩
  go_wp2_with fail
  go_at_call 16
  refine (HLA.out _ ((hb1.cell h00).trans HM.out)).mono ?_
  rintro e w2 ⟨A2, c2, rfl, hy2, hty2, hb2⟩
  have hb02 := below_call hb1 hb2
  have hal : Below w2.heap.size w2 (w2.alloc (.cells #[.slice none 0 0, .slice none 0 0, .slice none 0 0, .slice none 0 0] 57)) := (Below.refl _ _).alloc (Nat.le_refl _) _
  have HAD := Lib.hid (add_any w2.heap.size 1 A1 n c1 x none 0 0 [] (.slice none 0 0) (.slice none 0 0) (.slice none 0 0) NoX w2.heap.size (w2.alloc (.cells #[.slice none 0 0, .slice none 0 0, .slice none 0 0, .slice none 0 0] 57)) (heap_alloc_new w2 _) (OwR.nil _ _ _ _ _) ((hx1.below RS.stay hb2).below RS.stay hal) ((hty1.below hb2).below hal) (fun _ _ h => h) (Nat.le_refl _) (by omega) (by omega))
  clear hx1 hy2 hty1 hty2 hb1 hb2
  go_wp2_with fail
  go_at_call 32
  refine HAD.out.mono ?_
  rintro e w3 ⟨Ae, ne, ce, rfl, hh, ho, hk, hb3⟩
  have kc0 := Blk.cell hh 0
  have kf := Blk.frozen hh
  clear hh HAD
  go_wp2_with fail
  go_ret
  exact ⟨Ae, ne, ce, rfl, by have := EP.out; rw [show EI [] = [] from rfl, List.nil_append] at this; rw [← show ([] : List (Nat × List ByteArray)) ++ put1 1 x = put1 1 x from List.nil_append _, ← this]; exact OwE.rd ho, hb02.trans ((hal.trans hb3).mono hb02.size)⟩

set_option maxRecDepth 100000 in
set_option maxHeartbeats 8000000 in
theorem diff_any (ta tb : ByteArray) (m : Int) (w : World) (hm : w.cell? ⟨0, 0, none⟩ = some (.int .i64 m)) (ha : ta.size ≤ 1000) (hb : tb.size ≤ 1000) :
    Calls Tryd.prog 14 #[.string ta, .string tb] w (RRead w (EI (edits (LN ta) (LN tb)))) := by
  obtain ⟨i0, hinf, hz0, hz1, hz2⟩ := info_parts str_info
  by_cases hab : ta = tb
  · subst hab
    rw [edits_self]
    exact diff_same ta m w hm (by omega)
  obtain ⟨x, hx⟩ : ∃ x, LN ta = x := ⟨_, rfl⟩
  obtain ⟨y, hy⟩ : ∃ y, LN tb = y := ⟨_, rfl⟩
  obtain ⟨n, hn⟩ : ∃ n, x.length = n := ⟨_, rfl⟩
  obtain ⟨n2, hn2⟩ : ∃ n, y.length = n := ⟨_, rfl⟩
  have hn1 : (n : Int) ≤ 1000 := by have := LN_length ta; rw [hx, hn] at this; omega
  have hm1 : (n2 : Int) ≤ 1000 := by have := LN_length tb; rw [hy, hn2] at this; omega
  rw [hx, hy]
  obtain ⟨N, hN1, hN2⟩ : ∃ N, N ≤ n + 1 ∧ n + 1 ≤ N := ⟨n + 1, Nat.le_refl _, Nat.le_refl _⟩
  obtain ⟨M, hM1, hM2⟩ : ∃ M, M ≤ n2 + 1 ∧ n2 + 1 ≤ M := ⟨n2 + 1, Nat.le_refl _, Nat.le_refl _⟩
  have h00 : 0 < w.heap.size := World.block_lt_of_cell? w _ hm
  have hq : (ta.toList == tb.toList) = false := by rw [str_beq]; simpa using hab
  have HLA := Lib.hid (dlines_n ta n x m hx hn (by omega) w hm)
  have HLB := Lib.hid fun W hW => dlines_n tb n2 y m hy hn2 (by omega) W hW
  have HCO := Lib.hid fun A c A2 c2 W => common_n A n c x A2 n2 c2 y N M (by omega) (by omega) (by omega) (by omega) W
  have hlx := Lib.hid hn
  have hly := Lib.hid hn2
  have HM := Lib.hid hm
  have hd1 : decide ((1000 : Int) < (n : Int)) = false := by simp; omega
  have hd2 : decide ((1000 : Int) < (n2 : Int)) = false := by simp; omega
  clear hx hy ha hb hn hn2 hab hm
  go_enter Tryd.func14, Tryd.ntmps14
  go_wp2_with fail
  go_at_call 16
  refine HLA.out.mono ?_
  rintro e w1 ⟨A1, c1, rfl, hx1, hty1, hb1⟩
  go_wp2_with fail
  go_at_call 16
  refine (HLB.out _ ((hb1.cell h00).trans HM.out)).mono ?_
  rintro e w2 ⟨A2, c2, rfl, hy2, hty2, hb2⟩
  have hx2 := hx1.below RS.stay hb2
  have hb02 := below_call hb1 hb2
  clear hx1 hb1 hb2 hty1 hty2
  go_wp2_with fail
  go_at_call 33
  refine (HCO.out _ _ _ _ _ (hx2.below RS.stay ((Below.refl _ _).alloc (Nat.le_refl _) _)) (hy2.below RS.stay ((Below.refl _ _).alloc (Nat.le_refl _) _))).mono ?_
  rintro e w3 ⟨B, b, rfl, hT, hb3⟩
  have HS0 : Hid (Scr w3 w2.heap.size w2.heap.size [] [] [] []) := Lib.hid ((scr_new w2).call hb3)
  have HX := Lib.hid hx2
  have HY := Lib.hid hy2
  have HT := Lib.hid hT
  have hb23 : Below w2.heap.size w2 w3 := ((Below.refl _ _).alloc (Nat.le_refl _) _).trans (hb3.mono (by rw [size_alloc_]; omega))
  have hBl := hT.B_lt
  clear hx2 hy2 hT hb3
  go_wp2_with fail
  go_loopw [9, 10] (fun v9 v10 wr => ∃ (i j : Nat) (s : St ByteArray), i ≤ n ∧ j ≤ n2 ∧ v9 = .int .i64 i ∧ v10 = .int .i64 j ∧ Scr wr w2.heap.size w2.heap.size (EI s.E) s.D s.I s.K ∧ s.E.length ≤ 3 * (i + j) ∧ s.D.length ≤ i ∧ s.I.length ≤ j ∧ s.K.length ≤ i ∧ KT w3 wr ∧ Below w2.heap.size w2 wr ∧ Hid (Inv x y s i j)) (fun v9 v10 _ => n + n2 - (intOf v9).toNat - (intOf v10).toNat)
  case atStart => exact ⟨0, 0, ⟨[], [], [], []⟩, Nat.zero_le _, Nat.zero_le _, rfl, rfl, HS0.out, Nat.zero_le _, Nat.zero_le _, Nat.zero_le _, Nat.zero_le _, KT.refl _, hb23, Lib.hid (Inv.start x y)⟩
  case round =>
    obtain ⟨i, j, s, hi, hj, rfl, rfl, hS, hE, hD, hI, hK, hkt, hbw, HI⟩ := hrel
    have hsz2 := hbw.size
    go_upto_region 12 with fail
    go_cut [57] (fun c wx => c = .bool (decide (i < n ∨ j < n2)) ∧ wx = wr)
    case first =>
      by_cases h1 : i < n
      · have d1 : decide ((i : Int) < (n : Int)) = true := by simpa using h1
        have d2 : decide (i < n) = true := by simpa using h1
        go_wp2_with fail
        go_meet
        exact ⟨by simp [h1], rfl⟩
      · have d1 : decide ((i : Int) < (n : Int)) = false := by simpa using h1
        have d2 : decide (i < n) = false := by simpa using h1
        go_wp2_with fail
        go_meet
        exact ⟨by simp [h1], rfl⟩
    case rest =>
      obtain ⟨rfl, rfl⟩ := hcut
      obtain ⟨w5, rfl⟩ : ∃ q, q = wc := ⟨_, rfl⟩
      by_cases hend : i < n ∨ j < n2
      · have hd : decide (i < n ∨ j < n2) = true := by simpa using hend
        by_cases h1 : i < n
        · obtain ⟨bx, ox, rfl, hbx, hcx⟩ := RdS.opened HX.out (by omega)
          have cx := (hbw.cell (p := ⟨bx, ox + i, none⟩) hbx).trans (hcx i h1)
          clear hcx
          have p1 : (i : Int) < (n : Int) := by omega
          have p2 : (0 : Int) ≤ (i : Int) := by omega
          have d1 : decide ((i : Int) < (n : Int)) = true := by simpa using h1
          have d2 : decide (i < n) = true := by simpa using h1
          by_cases h2 : j < n2
          · obtain ⟨by_, oy, rfl, hby, hcy⟩ := RdS.opened HY.out (by omega)
            have cy := (hbw.cell (p := ⟨by_, oy + j, none⟩) hby).trans (hcy j h2)
            clear hcy
            have p3 : (j : Int) < (n2 : Int) := by omega
            have p4 : (0 : Int) ≤ (j : Int) := by omega
            have d3 : decide ((j : Int) < (n2 : Int)) = true := by simpa using h2
            have d4 : decide (j < n2) = true := by simpa using h2
            by_cases h3 : x.getD i BE = y.getD j BE
            · have hh : hitAt x y i j := ⟨by rw [hlx.out]; exact h1, by rw [hly.out]; exact h2, h3⟩
              have hq2 : ((x.getD i BE).toList == (y.getD j BE).toList) = true := by rw [str_beq]; simpa using h3
              have HI2 : Hid (Inv x y ⟨s.E ++ put1 2 s.D ++ put1 3 s.I, [], [], s.K ++ [x.getD i BE]⟩ (i + 1) (j + 1)) := Lib.hid (by
                have := HI.out.hit hh
                simpa [stp] using this)
              clear h3 hh
              generalize x.getD i BE = xk at *
              generalize y.getD j BE = yk at *
              go_wp2_with fail
              go_quiet (fail)
              have hS1 := hS.drewN nq
              have hb1 := below_drewN hbw nq
              have cx1 : (w5.drewN nq).cell? ⟨bx, ox + i, none⟩ = _ := cx
              have hkt1 : KT w3 (w5.drewN nq) := hkt
              have HCH := Lib.hid (change_any w2.heap.size w2.heap.size (EI s.E) s.D s.I s.K _ hS1 (by rw [EI_length]; omega) (by omega) (by omega))
              clear cx cy
              generalize w5.drewN nq = w6 at *
              go_wp2_with fail
              go_at_call 34
              refine HCH.out.mono ?_
              rintro e w7 ⟨rfl, hS7, hk7, hb7⟩
              rw [EIp2, EIp3] at hS7
              have HL1 : (s.E ++ put1 2 s.D ++ put1 3 s.I).length ≤ 3 * (i + 1 + (j + 1)) := by
                have hp1 := put1_length 1 s.K
                have hp2 := put1_length 2 s.D
                have hp3 := put1_length 3 s.I
                simp only [List.length_append]
                omega
              have HL2 : ([] : List ByteArray).length ≤ i + 1 := by simp
              have HL3 : ([] : List ByteArray).length ≤ j + 1 := by simp
              have HL4 : (s.K ++ [xk]).length ≤ i + 1 := by rw [List.length_append]; simp; omega
              have hb6 := hb1
              have hkt6 := hkt1
              obtain ⟨Ae, ne, ce, Ad, nd, cd, Ai, ni, ci, Ak, nk, ck, hV⟩ := hS7
              have cx7 := (hb7.cell (p := ⟨bx, ox + i, none⟩) hbx).trans cx1
              clear cx1 hS1
              have kc3 := Blk.cell hV.hp 3
              have kf := Blk.frozen hV.hp
              have hsz7 := hb7.size
              have hg7 : w2.heap.size < w7.heap.size := lt_of_heap hV.hp
              have hRl : nk ≤ 1000 := by rw [hV.k.len]; omega
              have hal : Below w7.heap.size w7 (w7.alloc (.cells #[.string xk] 9)).drew := ((Below.refl _ _).alloc (Nat.le_refl _) _).drew
              have HKA := Lib.hid (hV.k.call RS.stay hal)
              have HHA : Hid ((w7.alloc (.cells #[.string xk] 9)).drew.heap[w2.heap.size]? = some (.cells #[.slice Ae ne ce, .slice Ad nd cd, .slice Ai ni ci, .slice Ak nk ck] 57 (0, 0))) := Lib.hid (heap_call hal hV.hp)
              have HNE := Lib.hid (OwS.blk_ne HKA.out HHA.out (by decide))
              have HRA : Hid (Reads (w7.alloc (.cells #[.string xk] 9)).drew (w7.alloc (.cells #[.string xk] 9)).drew.heap.size 1 (some ⟨w7.heap.size, 0, none⟩) 1 [.string xk]) := Lib.hid (Reads.lit (cs := #[.string xk]) rfl)
              have HV := Lib.hid hV
              clear hV HCH hS hal
              go_wp2_with fail
              go_region_law (first
                | (go_must (refine step_append_r _ rfl (.tmp 103) (.tmp 108) 30 rfl 1 16 w2.heap.size 9 i0 (.string ByteArray.empty) RS.stay (by decide) Tryd.underlying30 hinf hz0 hz1 hz2 rfl (by omega) Ak nk ck s.K rfl HKA.out (some ⟨w7.heap.size, 0, none⟩) 1 1 rfl [xk] [.string xk] HRA.out (Fits.one rfl rfl) rfl ?_ ?_ ?_ ?_ ?_; (focus (simp [Value.oneCell'])); (focus (unfold maxLen; omega)); (focus omega); (focus (rw [size_drew, size_alloc_]; omega)); intro A8 c8 w8 ho8 hg8; (have hh8 := hg8.heap HNE.out HHA.out); (have kc8 := Blk.cell hh8 3); (have kf8 := Blk.frozen hh8); clear hh8)))
              all_goals
                go_wp2_with fail
                have hpu := ScrV.pushK HV.out (by omega) (.cells #[.string xk] 9) ho8 hg8.drew_left
                go_roundw
                case rel => exact ⟨i + 1, j + 1, ⟨s.E ++ put1 2 s.D ++ put1 3 s.I, [], [], s.K ++ [xk]⟩, by omega, by omega, by go_num, by go_num, ⟨Ae, ne, ce, Ad, nd, cd, Ai, ni, ci, A8, nk + 1, c8, hpu.1⟩, HL1, HL2, HL3, HL4, (hkt6.trans (KT.of hk7)).trans hpu.2.1, (hb6.trans hb7).trans hpu.2.2, HI2⟩
                case measure => (simp [intOf]; try omega)
            · have hh0 : ¬ hitAt x y i j := fun h => h3 h.2.2
              have hq2 : ((x.getD i BE).toList == (y.getD j BE).toList) = false := by rw [str_beq]; simpa using h3
              have d7 : ((j : Int) == (n2 : Int)) = false := by rw [beq_eq_false_iff_ne]; omega
              have T6 := HT.out.strKept hkt (by decide) (by decide) (by decide) (by decide) (by decide) (by decide)
              have e1 := T6.slot (i := i) (by omega) trivial
              have e2 := T6.slot (i := i + 1) (by omega) trivial
              have e3 := T6.at_ (i := i + 1) (j := j) (by omega) trivial (by omega)
              have e4 := T6.at_ (i := i) (j := j + 1) (by omega) trivial (by omega)
              have p5 : (i : Int) + 1 < (N : Int) := by omega
              have p6 : (i : Int) < (N : Int) := by omega
              have p7 : (j : Int) + 1 < (M : Int) := by omega
              have p8 : (j : Int) < (M : Int) := by omega
              have p9 : (0 : Int) ≤ (i : Int) + 1 := by omega
              have p10 : (0 : Int) ≤ (j : Int) + 1 := by omega
              clear T6 h3
              by_cases hl : LT x y i (j + 1) ≤ LT x y (i + 1) j
              · have dl : decide (LT x y i (j + 1) ≤ LT x y (i + 1) j) = true := by simpa using hl
                have HI2 : Hid (Inv x y ⟨s.E ++ put1 1 s.K, s.D ++ [x.getD i BE], s.I, []⟩ (i + 1) j) := Lib.hid (by
                  have := HI.out.del (by rw [hlx.out]; exact h1) (Or.inr ⟨hh0, hl⟩)
                  simpa [stp] using this)
                clear hl hh0
                have q1 : IntKind.i64.wrap ((i : Int) + 1) = (i : Int) + 1 := IntWalk.i64_in _ (by omega)
                have q2 : IntKind.i64.wrap ((j : Int) + 1) = (j : Int) + 1 := IntWalk.i64_in _ (by omega)
                have q3 : ((i : Int) + 1).toNat = i + 1 := by omega
                have q4 : ((j : Int) + 1).toNat = j + 1 := by omega
                generalize x.getD i BE = xk at *
                generalize y.getD j BE = yk at *
                go_wp2_with fail
                go_quiet (fail)
                go_wp2_with fail
                obtain ⟨m1, rfl⟩ : ∃ q, q = nq := ⟨_, rfl⟩
                go_quiet (fail)
                have hS1 := hS.drewN (m1 + nq)
                have hb6 := below_drewN hbw (m1 + nq)
                have cx1 : (w5.drewN (m1 + nq)).cell? ⟨bx, ox + i, none⟩ = _ := cx
                have hkt6 : KT w3 (w5.drewN (m1 + nq)) := hkt
                have HCH := Lib.hid (keep_any w2.heap.size w2.heap.size (EI s.E) s.D s.I s.K _ hS1 (by rw [EI_length]; omega) (by omega))
                clear cx cy e1 e2 e3 e4 q1 q2 q3 q4
                go_wp2_with fail
                generalize w5.drewN (m1 + nq) = w6 at *
                go_at_call 35
                refine HCH.out.mono ?_
                rintro e w7 ⟨rfl, hS7, hk7, hb7⟩
                rw [EIp1] at hS7
                have HL1 : (s.E ++ put1 1 s.K).length ≤ 3 * (i + 1 + (j)) := by
                  have hp1 := put1_length 1 s.K
                  have hp2 := put1_length 2 s.D
                  have hp3 := put1_length 3 s.I
                  simp only [List.length_append]
                  omega
                have HL2 : (s.D ++ [xk]).length ≤ i + 1 := by rw [List.length_append]; simp; omega
                have HL3 : (s.I).length ≤ j := by omega
                have HL4 : ([] : List ByteArray).length ≤ i + 1 := by simp
                obtain ⟨Ae, ne, ce, Ad, nd, cd, Ai, ni, ci, Ak, nk, ck, hV⟩ := hS7
                have cx7 := (hb7.cell (p := ⟨bx, ox + i, none⟩) hbx).trans cx1
                clear cx1 hS1
                have kc3 := Blk.cell hV.hp 1
                have kf := Blk.frozen hV.hp
                have hsz7 := hb7.size
                have hg7 : w2.heap.size < w7.heap.size := lt_of_heap hV.hp
                have hRl : nd ≤ 1000 := by rw [hV.d.len]; omega
                have hal : Below w7.heap.size w7 (w7.alloc (.cells #[.string xk] 9)).drew := ((Below.refl _ _).alloc (Nat.le_refl _) _).drew
                have HKA := Lib.hid (hV.d.call RS.stay hal)
                have HHA : Hid ((w7.alloc (.cells #[.string xk] 9)).drew.heap[w2.heap.size]? = some (.cells #[.slice Ae ne ce, .slice Ad nd cd, .slice Ai ni ci, .slice Ak nk ck] 57 (0, 0))) := Lib.hid (heap_call hal hV.hp)
                have HNE := Lib.hid (OwS.blk_ne HKA.out HHA.out (by decide))
                have HRA : Hid (Reads (w7.alloc (.cells #[.string xk] 9)).drew (w7.alloc (.cells #[.string xk] 9)).drew.heap.size 1 (some ⟨w7.heap.size, 0, none⟩) 1 [.string xk]) := Lib.hid (Reads.lit (cs := #[.string xk]) rfl)
                have HV := Lib.hid hV
                clear hV HCH hS hal
                go_wp2_with fail
                go_region_law (first
                  | (go_must (refine step_append_r _ rfl (.tmp 152) (.tmp 157) 30 rfl 1 16 w2.heap.size 9 i0 (.string ByteArray.empty) RS.stay (by decide) Tryd.underlying30 hinf hz0 hz1 hz2 rfl (by omega) Ad nd cd s.D rfl HKA.out (some ⟨w7.heap.size, 0, none⟩) 1 1 rfl [xk] [.string xk] HRA.out (Fits.one rfl rfl) rfl ?_ ?_ ?_ ?_ ?_; (focus (simp [Value.oneCell'])); (focus (unfold maxLen; omega)); (focus omega); (focus (rw [size_drew, size_alloc_]; omega)); intro A8 c8 w8 ho8 hg8; (have hh8 := hg8.heap HNE.out HHA.out); (have kc8 := Blk.cell hh8 1); (have kf8 := Blk.frozen hh8); clear hh8)))
                all_goals
                  go_wp2_with fail
                  have hpu := ScrV.pushD HV.out (by omega) (.cells #[.string xk] 9) ho8 hg8.drew_left
                  go_roundw
                  case rel => exact ⟨i + 1, j, ⟨s.E ++ put1 1 s.K, s.D ++ [xk], s.I, []⟩, by omega, by omega, by go_num, rfl, ⟨Ae, ne, ce, A8, nd + 1, c8, Ai, ni, ci, Ak, nk, ck, hpu.1⟩, HL1, HL2, HL3, HL4, (hkt6.trans (KT.of hk7)).trans hpu.2.1, (hb6.trans hb7).trans hpu.2.2, HI2⟩
                  case measure => (simp [intOf]; try omega)
              · have dl : decide (LT x y i (j + 1) ≤ LT x y (i + 1) j) = false := by simpa using hl
                have HI2 : Hid (Inv x y ⟨s.E ++ put1 1 s.K, s.D, s.I ++ [y.getD j BE], []⟩ i (j + 1)) := Lib.hid (by
                  have := HI.out.ins (by rw [hly.out]; exact h2) (Or.inr ⟨hh0, hl⟩)
                  simpa [stp] using this)
                clear hl hh0
                have q1 : IntKind.i64.wrap ((i : Int) + 1) = (i : Int) + 1 := IntWalk.i64_in _ (by omega)
                have q2 : IntKind.i64.wrap ((j : Int) + 1) = (j : Int) + 1 := IntWalk.i64_in _ (by omega)
                have q3 : ((i : Int) + 1).toNat = i + 1 := by omega
                have q4 : ((j : Int) + 1).toNat = j + 1 := by omega
                generalize x.getD i BE = xk at *
                generalize y.getD j BE = yk at *
                go_wp2_with fail
                go_quiet (fail)
                go_wp2_with fail
                obtain ⟨m1, rfl⟩ : ∃ q, q = nq := ⟨_, rfl⟩
                go_quiet (fail)
                have hS1 := hS.drewN (m1 + nq)
                have hb6 := below_drewN hbw (m1 + nq)
                have cx1 : (w5.drewN (m1 + nq)).cell? ⟨by_, oy + j, none⟩ = _ := cy
                have hkt6 : KT w3 (w5.drewN (m1 + nq)) := hkt
                have HCH := Lib.hid (keep_any w2.heap.size w2.heap.size (EI s.E) s.D s.I s.K _ hS1 (by rw [EI_length]; omega) (by omega))
                clear cx cy e1 e2 e3 e4 q1 q2 q3 q4
                go_wp2_with fail
                generalize w5.drewN (m1 + nq) = w6 at *
                go_at_call 35
                refine HCH.out.mono ?_
                rintro e w7 ⟨rfl, hS7, hk7, hb7⟩
                rw [EIp1] at hS7
                have HL1 : (s.E ++ put1 1 s.K).length ≤ 3 * (i + (j + 1)) := by
                  have hp1 := put1_length 1 s.K
                  have hp2 := put1_length 2 s.D
                  have hp3 := put1_length 3 s.I
                  simp only [List.length_append]
                  omega
                have HL2 : (s.D).length ≤ i := by omega
                have HL3 : (s.I ++ [yk]).length ≤ j + 1 := by rw [List.length_append]; simp; omega
                have HL4 : ([] : List ByteArray).length ≤ i := by simp
                obtain ⟨Ae, ne, ce, Ad, nd, cd, Ai, ni, ci, Ak, nk, ck, hV⟩ := hS7
                have cx7 := (hb7.cell (p := ⟨by_, oy + j, none⟩) hby).trans cx1
                clear cx1 hS1
                have kc3 := Blk.cell hV.hp 2
                have kf := Blk.frozen hV.hp
                have hsz7 := hb7.size
                have hg7 : w2.heap.size < w7.heap.size := lt_of_heap hV.hp
                have hRl : ni ≤ 1000 := by rw [hV.i.len]; omega
                have hal : Below w7.heap.size w7 (w7.alloc (.cells #[.string yk] 9)).drew := ((Below.refl _ _).alloc (Nat.le_refl _) _).drew
                have HKA := Lib.hid (hV.i.call RS.stay hal)
                have HHA : Hid ((w7.alloc (.cells #[.string yk] 9)).drew.heap[w2.heap.size]? = some (.cells #[.slice Ae ne ce, .slice Ad nd cd, .slice Ai ni ci, .slice Ak nk ck] 57 (0, 0))) := Lib.hid (heap_call hal hV.hp)
                have HNE := Lib.hid (OwS.blk_ne HKA.out HHA.out (by decide))
                have HRA : Hid (Reads (w7.alloc (.cells #[.string yk] 9)).drew (w7.alloc (.cells #[.string yk] 9)).drew.heap.size 1 (some ⟨w7.heap.size, 0, none⟩) 1 [.string yk]) := Lib.hid (Reads.lit (cs := #[.string yk]) rfl)
                have HV := Lib.hid hV
                clear hV HCH hS hal
                go_wp2_with fail
                go_region_law (first
                  | (go_must (refine step_append_r _ rfl (.tmp 64) (.tmp 69) 30 rfl 1 16 w2.heap.size 9 i0 (.string ByteArray.empty) RS.stay (by decide) Tryd.underlying30 hinf hz0 hz1 hz2 rfl (by omega) Ai ni ci s.I rfl HKA.out (some ⟨w7.heap.size, 0, none⟩) 1 1 rfl [yk] [.string yk] HRA.out (Fits.one rfl rfl) rfl ?_ ?_ ?_ ?_ ?_; (focus (simp [Value.oneCell'])); (focus (unfold maxLen; omega)); (focus omega); (focus (rw [size_drew, size_alloc_]; omega)); intro A8 c8 w8 ho8 hg8; (have hh8 := hg8.heap HNE.out HHA.out); (have kc8 := Blk.cell hh8 2); (have kf8 := Blk.frozen hh8); clear hh8)))
                all_goals
                  go_wp2_with fail
                  have hpu := ScrV.pushI HV.out (by omega) (.cells #[.string yk] 9) ho8 hg8.drew_left
                  go_roundw
                  case rel => exact ⟨i, j + 1, ⟨s.E ++ put1 1 s.K, s.D, s.I ++ [yk], []⟩, by omega, by omega, rfl, by go_num, ⟨Ae, ne, ce, Ad, nd, cd, A8, ni + 1, c8, Ak, nk, ck, hpu.1⟩, HL1, HL2, HL3, HL4, (hkt6.trans (KT.of hk7)).trans hpu.2.1, (hb6.trans hb7).trans hpu.2.2, HI2⟩
                  case measure => (simp [intOf]; try omega)
          · obtain rfl : j = n2 := by omega
            have d3 : decide ((j : Int) < (j : Int)) = false := by simp
            have d7 : ((j : Int) == (j : Int)) = true := by simp
            have HI2 : Hid (Inv x y ⟨s.E ++ put1 1 s.K, s.D ++ [x.getD i BE], s.I, []⟩ (i + 1) j) := Lib.hid (by
              have := HI.out.del (by rw [hlx.out]; exact h1) (Or.inl (by rw [hly.out]; exact Nat.le_refl _))
              simpa [stp] using this)
            generalize x.getD i BE = xk at *
            go_wp2_with fail
            go_quiet (fail)
            go_wp2_with fail
            obtain ⟨m1, rfl⟩ : ∃ q, q = nq := ⟨_, rfl⟩
            go_quiet (fail)
            have hS1 := hS.drewN (m1 + nq)
            have hb6 := below_drewN hbw (m1 + nq)
            have cx1 : (w5.drewN (m1 + nq)).cell? ⟨bx, ox + i, none⟩ = _ := cx
            have hkt6 : KT w3 (w5.drewN (m1 + nq)) := hkt
            have HCH := Lib.hid (keep_any w2.heap.size w2.heap.size (EI s.E) s.D s.I s.K _ hS1 (by rw [EI_length]; omega) (by omega))
            clear cx
            go_wp2_with fail
            generalize w5.drewN (m1 + nq) = w6 at *
            go_at_call 35
            refine HCH.out.mono ?_
            rintro e w7 ⟨rfl, hS7, hk7, hb7⟩
            rw [EIp1] at hS7
            have HL1 : (s.E ++ put1 1 s.K).length ≤ 3 * (i + 1 + (j)) := by
              have hp1 := put1_length 1 s.K
              have hp2 := put1_length 2 s.D
              have hp3 := put1_length 3 s.I
              simp only [List.length_append]
              omega
            have HL2 : (s.D ++ [xk]).length ≤ i + 1 := by rw [List.length_append]; simp; omega
            have HL3 : (s.I).length ≤ j := by omega
            have HL4 : ([] : List ByteArray).length ≤ i + 1 := by simp
            obtain ⟨Ae, ne, ce, Ad, nd, cd, Ai, ni, ci, Ak, nk, ck, hV⟩ := hS7
            have cx7 := (hb7.cell (p := ⟨bx, ox + i, none⟩) hbx).trans cx1
            clear cx1 hS1
            have kc3 := Blk.cell hV.hp 1
            have kf := Blk.frozen hV.hp
            have hsz7 := hb7.size
            have hg7 : w2.heap.size < w7.heap.size := lt_of_heap hV.hp
            have hRl : nd ≤ 1000 := by rw [hV.d.len]; omega
            have hal : Below w7.heap.size w7 (w7.alloc (.cells #[.string xk] 9)).drew := ((Below.refl _ _).alloc (Nat.le_refl _) _).drew
            have HKA := Lib.hid (hV.d.call RS.stay hal)
            have HHA : Hid ((w7.alloc (.cells #[.string xk] 9)).drew.heap[w2.heap.size]? = some (.cells #[.slice Ae ne ce, .slice Ad nd cd, .slice Ai ni ci, .slice Ak nk ck] 57 (0, 0))) := Lib.hid (heap_call hal hV.hp)
            have HNE := Lib.hid (OwS.blk_ne HKA.out HHA.out (by decide))
            have HRA : Hid (Reads (w7.alloc (.cells #[.string xk] 9)).drew (w7.alloc (.cells #[.string xk] 9)).drew.heap.size 1 (some ⟨w7.heap.size, 0, none⟩) 1 [.string xk]) := Lib.hid (Reads.lit (cs := #[.string xk]) rfl)
            have HV := Lib.hid hV
            clear hV HCH hS hal
            go_wp2_with fail
            go_region_law (first
              | (go_must (refine step_append_r _ rfl (.tmp 152) (.tmp 157) 30 rfl 1 16 w2.heap.size 9 i0 (.string ByteArray.empty) RS.stay (by decide) Tryd.underlying30 hinf hz0 hz1 hz2 rfl (by omega) Ad nd cd s.D rfl HKA.out (some ⟨w7.heap.size, 0, none⟩) 1 1 rfl [xk] [.string xk] HRA.out (Fits.one rfl rfl) rfl ?_ ?_ ?_ ?_ ?_; (focus (simp [Value.oneCell'])); (focus (unfold maxLen; omega)); (focus omega); (focus (rw [size_drew, size_alloc_]; omega)); intro A8 c8 w8 ho8 hg8; (have hh8 := hg8.heap HNE.out HHA.out); (have kc8 := Blk.cell hh8 1); (have kf8 := Blk.frozen hh8); clear hh8)))
            all_goals
              go_wp2_with fail
              have hpu := ScrV.pushD HV.out (by omega) (.cells #[.string xk] 9) ho8 hg8.drew_left
              go_roundw
              case rel => exact ⟨i + 1, j, ⟨s.E ++ put1 1 s.K, s.D ++ [xk], s.I, []⟩, by omega, by omega, by go_num, rfl, ⟨Ae, ne, ce, A8, nd + 1, c8, Ai, ni, ci, Ak, nk, ck, hpu.1⟩, HL1, HL2, HL3, HL4, (hkt6.trans (KT.of hk7)).trans hpu.2.1, (hb6.trans hb7).trans hpu.2.2, HI2⟩
              case measure => (simp [intOf]; try omega)
        · obtain rfl : i = n := by omega
          have h2 : j < n2 := by omega
          obtain ⟨by_, oy, rfl, hby, hcy⟩ := RdS.opened HY.out (by omega)
          have cy := (hbw.cell (p := ⟨by_, oy + j, none⟩) hby).trans (hcy j h2)
          clear hcy
          have p3 : (j : Int) < (n2 : Int) := by omega
          have p4 : (0 : Int) ≤ (j : Int) := by omega
          have d3 : decide ((j : Int) < (n2 : Int)) = true := by simpa using h2
          have d4 : decide (j < n2) = true := by simpa using h2
          have d1 : decide ((i : Int) < (i : Int)) = false := by simp
          have d7 : ((j : Int) == (n2 : Int)) = false := by rw [beq_eq_false_iff_ne]; omega
          have HI2 : Hid (Inv x y ⟨s.E ++ put1 1 s.K, s.D, s.I ++ [y.getD j BE], []⟩ i (j + 1)) := Lib.hid (by
            have := HI.out.ins (by rw [hly.out]; exact h2) (Or.inl (by rw [hlx.out]; exact Nat.le_refl _))
            simpa [stp] using this)
          generalize y.getD j BE = yk at *
          go_wp2_with fail
          go_quiet (fail)
          go_wp2_with fail
          obtain ⟨m1, rfl⟩ : ∃ q, q = nq := ⟨_, rfl⟩
          go_quiet (fail)
          have hS1 := hS.drewN (m1 + nq)
          have hb6 := below_drewN hbw (m1 + nq)
          have cx1 : (w5.drewN (m1 + nq)).cell? ⟨by_, oy + j, none⟩ = _ := cy
          have hkt6 : KT w3 (w5.drewN (m1 + nq)) := hkt
          have HCH := Lib.hid (keep_any w2.heap.size w2.heap.size (EI s.E) s.D s.I s.K _ hS1 (by rw [EI_length]; omega) (by omega))
          clear cy
          go_wp2_with fail
          generalize w5.drewN (m1 + nq) = w6 at *
          go_at_call 35
          refine HCH.out.mono ?_
          rintro e w7 ⟨rfl, hS7, hk7, hb7⟩
          rw [EIp1] at hS7
          have HL1 : (s.E ++ put1 1 s.K).length ≤ 3 * (i + (j + 1)) := by
            have hp1 := put1_length 1 s.K
            have hp2 := put1_length 2 s.D
            have hp3 := put1_length 3 s.I
            simp only [List.length_append]
            omega
          have HL2 : (s.D).length ≤ i := by omega
          have HL3 : (s.I ++ [yk]).length ≤ j + 1 := by rw [List.length_append]; simp; omega
          have HL4 : ([] : List ByteArray).length ≤ i := by simp
          obtain ⟨Ae, ne, ce, Ad, nd, cd, Ai, ni, ci, Ak, nk, ck, hV⟩ := hS7
          have cx7 := (hb7.cell (p := ⟨by_, oy + j, none⟩) hby).trans cx1
          clear cx1 hS1
          have kc3 := Blk.cell hV.hp 2
          have kf := Blk.frozen hV.hp
          have hsz7 := hb7.size
          have hg7 : w2.heap.size < w7.heap.size := lt_of_heap hV.hp
          have hRl : ni ≤ 1000 := by rw [hV.i.len]; omega
          have hal : Below w7.heap.size w7 (w7.alloc (.cells #[.string yk] 9)).drew := ((Below.refl _ _).alloc (Nat.le_refl _) _).drew
          have HKA := Lib.hid (hV.i.call RS.stay hal)
          have HHA : Hid ((w7.alloc (.cells #[.string yk] 9)).drew.heap[w2.heap.size]? = some (.cells #[.slice Ae ne ce, .slice Ad nd cd, .slice Ai ni ci, .slice Ak nk ck] 57 (0, 0))) := Lib.hid (heap_call hal hV.hp)
          have HNE := Lib.hid (OwS.blk_ne HKA.out HHA.out (by decide))
          have HRA : Hid (Reads (w7.alloc (.cells #[.string yk] 9)).drew (w7.alloc (.cells #[.string yk] 9)).drew.heap.size 1 (some ⟨w7.heap.size, 0, none⟩) 1 [.string yk]) := Lib.hid (Reads.lit (cs := #[.string yk]) rfl)
          have HV := Lib.hid hV
          clear hV HCH hS hal
          go_wp2_with fail
          go_region_law (first
            | (go_must (refine step_append_r _ rfl (.tmp 64) (.tmp 69) 30 rfl 1 16 w2.heap.size 9 i0 (.string ByteArray.empty) RS.stay (by decide) Tryd.underlying30 hinf hz0 hz1 hz2 rfl (by omega) Ai ni ci s.I rfl HKA.out (some ⟨w7.heap.size, 0, none⟩) 1 1 rfl [yk] [.string yk] HRA.out (Fits.one rfl rfl) rfl ?_ ?_ ?_ ?_ ?_; (focus (simp [Value.oneCell'])); (focus (unfold maxLen; omega)); (focus omega); (focus (rw [size_drew, size_alloc_]; omega)); intro A8 c8 w8 ho8 hg8; (have hh8 := hg8.heap HNE.out HHA.out); (have kc8 := Blk.cell hh8 2); (have kf8 := Blk.frozen hh8); clear hh8)))
          all_goals
            go_wp2_with fail
            have hpu := ScrV.pushI HV.out (by omega) (.cells #[.string yk] 9) ho8 hg8.drew_left
            go_roundw
            case rel => exact ⟨i, j + 1, ⟨s.E ++ put1 1 s.K, s.D, s.I ++ [yk], []⟩, by omega, by omega, rfl, by go_num, ⟨Ae, ne, ce, Ad, nd, cd, A8, ni + 1, c8, Ak, nk, ck, hpu.1⟩, HL1, HL2, HL3, HL4, (hkt6.trans (KT.of hk7)).trans hpu.2.1, (hb6.trans hb7).trans hpu.2.2, HI2⟩
            case measure => (simp [intOf]; try omega)
      · have hd : decide (i < n ∨ j < n2) = false := by simpa using hend
        have HF : Hid (fin s = edits x y) := Lib.hid (HI.out.fin (by rw [hlx.out]; omega) (by rw [hly.out]; omega))
        have HCH := Lib.hid (keep_any w2.heap.size w2.heap.size (EI s.E) s.D s.I s.K _ hS (by rw [EI_length]; omega) (by omega))
        go_wp2_with fail
        go_at_call 35
        refine HCH.out.mono ?_
        rintro e w7 ⟨rfl, hS7, hk7, hb7⟩
        rw [EIp1] at hS7
        have HC2 := Lib.hid (change_any w2.heap.size w2.heap.size (EI (s.E ++ put1 1 s.K)) s.D s.I [] _ hS7 (by
          have := put1_length 1 s.K
          rw [EI_length, List.length_append]; omega) (by omega) (by omega))
        clear hS7
        go_wp2_with fail
        go_at_call 34
        refine HC2.out.mono ?_
        rintro e w8 ⟨rfl, hS8, hk8, hb8⟩
        rw [EIp2, EIp3] at hS8
        obtain ⟨Ae, ne, ce, Ad, nd, cd, Ai, ni, ci, Ak, nk, ck, hV⟩ := hS8
        have kc0 := Blk.cell hV.hp 0
        have kf := Blk.frozen hV.hp
        have HV := Lib.hid hV
        clear hV HCH HC2 hS
        go_wp2_with fail
        go_ret
        exact ⟨Ae, ne, ce, rfl, by rw [← HF.out]; exact OwE.rd HV.out.e, (hb02.trans (((hbw.trans hb7).trans hb8).mono hb02.size))⟩
end Go.Proofs.YtakbpdlfgjfbeaaDoor
