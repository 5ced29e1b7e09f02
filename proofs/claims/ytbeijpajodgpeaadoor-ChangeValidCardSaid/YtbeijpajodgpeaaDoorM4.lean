/- The walk of change.put (a). Printed by gen_c13.py -/
import Derived.Test.YtbeijpajodgpeaaDoorM1
import Derived.Deep.RegionHeld3
import Derived.Deep.CutBlock
namespace Go.Proofs.YtbeijpajodgpeaaDoor
open Go.RowKit
set_option linter.unusedSimpArgs false
set_option linter.unusedVariables false

set_option maxRecDepth 100000 in
set_option maxHeartbeats 16000000 in
theorem put_1 (w00 : World) (A : Option Addr) (n c : Nat) (l : List UInt8) (cg : Cg) (Ah : Option Addr) (nh ch : Nat) (w : World) (ho : OwB w w00.heap.size 5 A n c l) (hw : Below w00.heap.size w00 w) (h : RdR RV 6 w00 Ah nh ch cg.hs) (hv : cv cg = 0) (hn : n ≤ 16777216) (hkd : cg.kd = 1) :
    Calls Tryd.prog 28 #[.slice A n c, cval cg Ah nh ch] w (RPB w00.heap.size w A (l ++ encC cg) (n + 400000)) := by
  have HE := EncF.of hv
  obtain ⟨kd, us, nt, ts, tn, os, on, tx, z, hs⟩ := cg
  obtain ⟨b1, b2, b3, bt, bo, bk, bh⟩ := HE
  simp only [] at hkd b1 b2 b3 bt bo bk bh h
  have hwz := hw.size
  subst hkd
  have hU : fU 1 = true := rfl
  have hN : fN 1 = true := rfl
  have hT : fT 1 = true := rfl
  have hO : fO 1 = false := rfl
  have hK : fK 1 = false := rfl
  have hH : fH 1 = false := rfl
  obtain ⟨bt0, bt1, bt2⟩ := bt hT
  have hw1 : True = True := rfl
  have HEN : Hid (l ++ encC ⟨1, us, nt, ts, tn, os, on, tx, z, hs⟩ = l ++ nmb (1 : Int).toNat ++ txt us ++ txt nt ++ ttl ts tn ++ txt tx) := Lib.hid (by simp [encC, iff', hU, hN, hT, hO, hK, hH])
  have HU := Lib.hid (uses_any 1)
  unfold usesF at HU
  rw [hU, hN, hT, hO, hK, hH] at HU
  clear bt bo bk bh hv hw1 hU hN hT hO hK hH
  unfold cval
  simp only []
  have hb0 : w00.heap.size ≤ w.heap.size := hw.size
  have kb0 : (w.alloc (.cells #[.int .i64 1, .string us, .string nt, .int .i64 ts, .string tn, .int .i64 os, .string on, .string tx, .int .i64 z, .slice Ah nh ch] 31)).heap[w.heap.size]? = some (.cells #[.int .i64 1, .string us, .string nt, .int .i64 ts, .string tn, .int .i64 os, .string on, .string tx, .int .i64 z, .slice Ah nh ch] 31 (0, 0)) := heap_new rfl
  have ho0 : OwB (w.alloc (.cells #[.int .i64 1, .string us, .string nt, .int .i64 ts, .string tn, .int .i64 os, .string on, .string tx, .int .i64 z, .slice Ah nh ch] 31)) w00.heap.size 5 A n c l := ho.alloc _
  have hG0 : OwG w00.heap.size w (w.alloc (.cells #[.int .i64 1, .string us, .string nt, .int .i64 ts, .string tn, .int .i64 os, .string on, .string tx, .int .i64 z, .slice Ah nh ch] 31)) A A := (OwG.refl _ _ _).al hb0 _
  have hz0 : w00.heap.size ≤ (w.alloc (.cells #[.int .i64 1, .string us, .string nt, .int .i64 ts, .string tn, .int .i64 os, .string on, .string tx, .int .i64 z, .slice Ah nh ch] 31)).heap.size := by rw [size_alloc_]; omega
  have hn0 : n ≤ n := Nat.le_refl _
  clear ho hwz
  go_enter Tryd.func28, Tryd.ntmps28
  go_upto_region 1 with fail
  generalize w.alloc (.cells #[.int .i64 1, .string us, .string nt, .int .i64 ts, .string tn, .int .i64 os, .string on, .string tx, .int .i64 z, .slice Ah nh ch] 31) = w0 at *
  have kc0 := Blk.cell kb0
  go_wp2_with fail
  go_at_call 30
  refine (HU.out _).mono ?_
  rintro e w1 ⟨rfl, hb1⟩
  have kb1 := heap_call hb1 kb0
  have ho1 := OwB.call hb1 ho0
  have hG1 := hG0.below hb1 hb0
  have hz1 := Nat.le_trans hz0 hb1.size
  clear kb0 kc0 ho0 hG0 hz0 hb1 HU
  go_upto_region 2 with fail
  have kb0 := heap_old (o := .cells #[.bool true, .bool true, .bool true, .bool false, .bool true, .bool false, .bool false] 72) kb1
  have kf0 : (w1.alloc (.cells #[.bool true, .bool true, .bool true, .bool false, .bool true, .bool false, .bool false] 72)).heap[w1.heap.size]? = some (.cells #[.bool true, .bool true, .bool true, .bool false, .bool true, .bool false, .bool false] 72 (0, 0)) := heap_new rfl
  have ho0 := OwB.alloc (.cells #[.bool true, .bool true, .bool true, .bool false, .bool true, .bool false, .bool false] 72) ho1
  have hG0 := hG1.al hb0 (.cells #[.bool true, .bool true, .bool true, .bool false, .bool true, .bool false, .bool false] 72)
  have hz0 : w00.heap.size ≤ (w1.alloc (.cells #[.bool true, .bool true, .bool true, .bool false, .bool true, .bool false, .bool false] 72)).heap.size := by rw [size_alloc_]; omega
  clear kb1 ho1 hG1 hz1
  generalize w1.alloc (.cells #[.bool true, .bool true, .bool true, .bool false, .bool true, .bool false, .bool false] 72) = w0 at *
  generalize w1.heap.size = gf at *
  have kc0 := Blk.cell kb0
  have kq0 := Blk.cell kf0
  go_wp2_with fail
  go_at_call 27
  refine (num_b A n c (l) w00.heap.size n (1 : Int) w0 ho0 hz0 hn0 (by omega) (by omega) (by omega)).mono ?_
  rintro e w1 ⟨A1, n1, c1, rfl, ho1, hg1, hn1⟩
  have kb1 := hg1.heap (OwB.block_ne ho0 kb0 (by decide)) kb0
  have kf1 := hg1.heap (OwB.block_ne ho0 kf0 (by decide)) kf0
  have kc1 := Blk.cell kb1
  have kq1 := Blk.cell kf1
  have hz1 := Nat.le_trans hz0 hg1.g.size
  have hG1 := hG0.trans hg1
  clear kb0 kc0 ho0 hg1 hG0 hz0 kf0 kq0
  go_wp2_with fail
  go_at_call 45
  refine (text_b A1 n1 c1 (l ++ nmb (1 : Int).toNat) w00.heap.size (n + 6) 30 us w1 ho1 hz1 hn1 (by omega) b1 (by omega)).mono ?_
  rintro e w2 ⟨A2, n2, c2, rfl, ho2, hg2, hn2⟩
  have kb2 := hg2.heap (OwB.block_ne ho1 kb1 (by decide)) kb1
  have kf2 := hg2.heap (OwB.block_ne ho1 kf1 (by decide)) kf1
  have kc2 := Blk.cell kb2
  have kq2 := Blk.cell kf2
  have hz2 := Nat.le_trans hz1 hg2.g.size
  have hG2 := hG1.trans hg2
  clear kb1 kc1 ho1 hg2 hG1 hz1 kf1 kq1
  go_wp2_with fail
  go_at_call 45
  refine (text_b A2 n2 c2 (l ++ nmb (1 : Int).toNat ++ txt us) w00.heap.size ((n + 6) + 30 + 6) 200 nt w2 ho2 hz2 hn2 (by omega) b2 (by omega)).mono ?_
  rintro e w3 ⟨A3, n3, c3, rfl, ho3, hg3, hn3⟩
  have kb3 := hg3.heap (OwB.block_ne ho2 kb2 (by decide)) kb2
  have kf3 := hg3.heap (OwB.block_ne ho2 kf2 (by decide)) kf2
  have kc3 := Blk.cell kb3
  have kq3 := Blk.cell kf3
  have hz3 := Nat.le_trans hz2 hg3.g.size
  have hG3 := hG2.trans hg3
  clear kb2 kc2 ho2 hg3 hG2 hz2 kf2 kq2
  go_wp2_with fail
  go_at_call 46
  refine (title_b A3 n3 c3 (l ++ nmb (1 : Int).toNat ++ txt us ++ txt nt) w00.heap.size (((n + 6) + 30 + 6) + 200 + 6) ts tn w3 ho3 hz3 hn3 (by omega) bt0 bt1 bt2).mono ?_
  rintro e w4 ⟨A4, n4, c4, rfl, ho4, hg4, hn4⟩
  have kb4 := hg4.heap (OwB.block_ne ho3 kb3 (by decide)) kb3
  have kf4 := hg4.heap (OwB.block_ne ho3 kf3 (by decide)) kf3
  have kc4 := Blk.cell kb4
  have kq4 := Blk.cell kf4
  have hz4 := Nat.le_trans hz3 hg4.g.size
  have hG4 := hG3.trans hg4
  clear kb3 kc3 ho3 hg4 hG3 hz3 kf3 kq3
  go_wp2_with fail
  go_at_call 45
  refine (text_b A4 n4 c4 (l ++ nmb (1 : Int).toNat ++ txt us ++ txt nt ++ ttl ts tn) w00.heap.size ((((n + 6) + 30 + 6) + 200 + 6) + 120) 8192 tx w4 ho4 hz4 hn4 (by omega) b3 (by omega)).mono ?_
  rintro e w5 ⟨A5, n5, c5, rfl, ho5, hg5, hn5⟩
  have kb5 := hg5.heap (OwB.block_ne ho4 kb4 (by decide)) kb4
  have kf5 := hg5.heap (OwB.block_ne ho4 kf4 (by decide)) kf4
  have kc5 := Blk.cell kb5
  have kq5 := Blk.cell kf5
  have hz5 := Nat.le_trans hz4 hg5.g.size
  have hG5 := hG4.trans hg5
  clear kb4 kc4 ho4 hg5 hG4 hz4 kf4 kq4
  go_wp2_with fail
  go_ret
  exact ⟨A5, n5, c5, rfl, by rw [HEN.out]; exact ho5, hG5, by omega⟩
set_option maxRecDepth 100000 in
set_option maxHeartbeats 16000000 in
theorem put_2 (w00 : World) (A : Option Addr) (n c : Nat) (l : List UInt8) (cg : Cg) (Ah : Option Addr) (nh ch : Nat) (w : World) (ho : OwB w w00.heap.size 5 A n c l) (hw : Below w00.heap.size w00 w) (h : RdR RV 6 w00 Ah nh ch cg.hs) (hv : cv cg = 0) (hn : n ≤ 16777216) (hkd : cg.kd = 2 ∨ cg.kd = 3 ∨ cg.kd = 7 ∨ cg.kd = 8) :
    Calls Tryd.prog 28 #[.slice A n c, cval cg Ah nh ch] w (RPB w00.heap.size w A (l ++ encC cg) (n + 400000)) := by
  have HE := EncF.of hv
  obtain ⟨kd, us, nt, ts, tn, os, on, tx, z, hs⟩ := cg
  obtain ⟨b1, b2, b3, bt, bo, bk, bh⟩ := HE
  simp only [] at hkd b1 b2 b3 bt bo bk bh h
  have hwz := hw.size
  have hU : fU kd = true := by rcases hkd with rfl | rfl | rfl | rfl <;> rfl
  have hN : fN kd = false := by rcases hkd with rfl | rfl | rfl | rfl <;> rfl
  have hT : fT kd = true := by rcases hkd with rfl | rfl | rfl | rfl <;> rfl
  have hO : fO kd = false := by rcases hkd with rfl | rfl | rfl | rfl <;> rfl
  have hK : fK kd = false := by rcases hkd with rfl | rfl | rfl | rfl <;> rfl
  have hH : fH kd = false := by rcases hkd with rfl | rfl | rfl | rfl <;> rfl
  have k1 : (kd == 1) = false := by rcases hkd with rfl | rfl | rfl | rfl <;> rfl
  have m1 : (kd != 1) = true := by rcases hkd with rfl | rfl | rfl | rfl <;> rfl
  have k4 : (kd == 4) = false := by rcases hkd with rfl | rfl | rfl | rfl <;> rfl
  have m4 : (kd != 4) = true := by rcases hkd with rfl | rfl | rfl | rfl <;> rfl
  have k5 : (kd == 5) = false := by rcases hkd with rfl | rfl | rfl | rfl <;> rfl
  have m5 : (kd != 5) = true := by rcases hkd with rfl | rfl | rfl | rfl <;> rfl
  have k6 : (kd == 6) = false := by rcases hkd with rfl | rfl | rfl | rfl <;> rfl
  have m6 : (kd != 6) = true := by rcases hkd with rfl | rfl | rfl | rfl <;> rfl
  have k9 : (kd == 9) = false := by rcases hkd with rfl | rfl | rfl | rfl <;> rfl
  have m9 : (kd != 9) = true := by rcases hkd with rfl | rfl | rfl | rfl <;> rfl
  have k10 : (kd == 10) = false := by rcases hkd with rfl | rfl | rfl | rfl <;> rfl
  have m10 : (kd != 10) = true := by rcases hkd with rfl | rfl | rfl | rfl <;> rfl
  have hk0 : 0 ≤ kd := by omega
  have hk1 : kd ≤ 10 := by omega
  clear hkd
  obtain ⟨bt0, bt1, bt2⟩ := bt hT
  have hw1 : True = True := rfl
  have HEN : Hid (l ++ encC ⟨kd, us, nt, ts, tn, os, on, tx, z, hs⟩ = l ++ nmb (kd : Int).toNat ++ txt us ++ ttl ts tn) := Lib.hid (by simp [encC, iff', hU, hN, hT, hO, hK, hH])
  have HU := Lib.hid (uses_any kd)
  unfold usesF at HU
  rw [hU, hN, hT, hO, hK, hH] at HU
  clear bt bo bk bh hv hw1 hU hN hT hO hK hH
  unfold cval
  simp only []
  have hb0 : w00.heap.size ≤ w.heap.size := hw.size
  have kb0 : (w.alloc (.cells #[.int .i64 kd, .string us, .string nt, .int .i64 ts, .string tn, .int .i64 os, .string on, .string tx, .int .i64 z, .slice Ah nh ch] 31)).heap[w.heap.size]? = some (.cells #[.int .i64 kd, .string us, .string nt, .int .i64 ts, .string tn, .int .i64 os, .string on, .string tx, .int .i64 z, .slice Ah nh ch] 31 (0, 0)) := heap_new rfl
  have ho0 : OwB (w.alloc (.cells #[.int .i64 kd, .string us, .string nt, .int .i64 ts, .string tn, .int .i64 os, .string on, .string tx, .int .i64 z, .slice Ah nh ch] 31)) w00.heap.size 5 A n c l := ho.alloc _
  have hG0 : OwG w00.heap.size w (w.alloc (.cells #[.int .i64 kd, .string us, .string nt, .int .i64 ts, .string tn, .int .i64 os, .string on, .string tx, .int .i64 z, .slice Ah nh ch] 31)) A A := (OwG.refl _ _ _).al hb0 _
  have hz0 : w00.heap.size ≤ (w.alloc (.cells #[.int .i64 kd, .string us, .string nt, .int .i64 ts, .string tn, .int .i64 os, .string on, .string tx, .int .i64 z, .slice Ah nh ch] 31)).heap.size := by rw [size_alloc_]; omega
  have hn0 : n ≤ n := Nat.le_refl _
  clear ho hwz
  go_enter Tryd.func28, Tryd.ntmps28
  go_upto_region 1 with fail
  generalize w.alloc (.cells #[.int .i64 kd, .string us, .string nt, .int .i64 ts, .string tn, .int .i64 os, .string on, .string tx, .int .i64 z, .slice Ah nh ch] 31) = w0 at *
  have kc0 := Blk.cell kb0
  go_wp2_with fail
  go_at_call 30
  refine (HU.out _).mono ?_
  rintro e w1 ⟨rfl, hb1⟩
  have kb1 := heap_call hb1 kb0
  have ho1 := OwB.call hb1 ho0
  have hG1 := hG0.below hb1 hb0
  have hz1 := Nat.le_trans hz0 hb1.size
  clear kb0 kc0 ho0 hG0 hz0 hb1 HU
  go_upto_region 2 with fail
  have kb0 := heap_old (o := .cells #[.bool true, .bool false, .bool true, .bool false, .bool false, .bool false, .bool false] 72) kb1
  have kf0 : (w1.alloc (.cells #[.bool true, .bool false, .bool true, .bool false, .bool false, .bool false, .bool false] 72)).heap[w1.heap.size]? = some (.cells #[.bool true, .bool false, .bool true, .bool false, .bool false, .bool false, .bool false] 72 (0, 0)) := heap_new rfl
  have ho0 := OwB.alloc (.cells #[.bool true, .bool false, .bool true, .bool false, .bool false, .bool false, .bool false] 72) ho1
  have hG0 := hG1.al hb0 (.cells #[.bool true, .bool false, .bool true, .bool false, .bool false, .bool false, .bool false] 72)
  have hz0 : w00.heap.size ≤ (w1.alloc (.cells #[.bool true, .bool false, .bool true, .bool false, .bool false, .bool false, .bool false] 72)).heap.size := by rw [size_alloc_]; omega
  clear kb1 ho1 hG1 hz1
  generalize w1.alloc (.cells #[.bool true, .bool false, .bool true, .bool false, .bool false, .bool false, .bool false] 72) = w0 at *
  generalize w1.heap.size = gf at *
  have kc0 := Blk.cell kb0
  have kq0 := Blk.cell kf0
  go_wp2_with fail
  go_at_call 27
  refine (num_b A n c (l) w00.heap.size n (kd : Int) w0 ho0 hz0 hn0 (by omega) hk0 (by omega)).mono ?_
  rintro e w1 ⟨A1, n1, c1, rfl, ho1, hg1, hn1⟩
  have kb1 := hg1.heap (OwB.block_ne ho0 kb0 (by decide)) kb0
  have kf1 := hg1.heap (OwB.block_ne ho0 kf0 (by decide)) kf0
  have kc1 := Blk.cell kb1
  have kq1 := Blk.cell kf1
  have hz1 := Nat.le_trans hz0 hg1.g.size
  have hG1 := hG0.trans hg1
  clear kb0 kc0 ho0 hg1 hG0 hz0 kf0 kq0
  go_wp2_with fail
  go_at_call 45
  refine (text_b A1 n1 c1 (l ++ nmb (kd : Int).toNat) w00.heap.size (n + 6) 30 us w1 ho1 hz1 hn1 (by omega) b1 (by omega)).mono ?_
  rintro e w2 ⟨A2, n2, c2, rfl, ho2, hg2, hn2⟩
  have kb2 := hg2.heap (OwB.block_ne ho1 kb1 (by decide)) kb1
  have kf2 := hg2.heap (OwB.block_ne ho1 kf1 (by decide)) kf1
  have kc2 := Blk.cell kb2
  have kq2 := Blk.cell kf2
  have hz2 := Nat.le_trans hz1 hg2.g.size
  have hG2 := hG1.trans hg2
  clear kb1 kc1 ho1 hg2 hG1 hz1 kf1 kq1
  go_wp2_with fail
  go_at_call 46
  refine (title_b A2 n2 c2 (l ++ nmb (kd : Int).toNat ++ txt us) w00.heap.size ((n + 6) + 30 + 6) ts tn w2 ho2 hz2 hn2 (by omega) bt0 bt1 bt2).mono ?_
  rintro e w3 ⟨A3, n3, c3, rfl, ho3, hg3, hn3⟩
  have kb3 := hg3.heap (OwB.block_ne ho2 kb2 (by decide)) kb2
  have kf3 := hg3.heap (OwB.block_ne ho2 kf2 (by decide)) kf2
  have kc3 := Blk.cell kb3
  have kq3 := Blk.cell kf3
  have hz3 := Nat.le_trans hz2 hg3.g.size
  have hG3 := hG2.trans hg3
  clear kb2 kc2 ho2 hg3 hG2 hz2 kf2 kq2
  go_wp2_with fail
  go_ret
  exact ⟨A3, n3, c3, rfl, by rw [HEN.out]; exact ho3, hG3, by omega⟩
set_option maxRecDepth 100000 in
set_option maxHeartbeats 16000000 in
theorem put_4 (w00 : World) (A : Option Addr) (n c : Nat) (l : List UInt8) (cg : Cg) (Ah : Option Addr) (nh ch : Nat) (w : World) (ho : OwB w w00.heap.size 5 A n c l) (hw : Below w00.heap.size w00 w) (h : RdR RV 6 w00 Ah nh ch cg.hs) (hv : cv cg = 0) (hn : n ≤ 16777216) (hkd : cg.kd = 4) :
    Calls Tryd.prog 28 #[.slice A n c, cval cg Ah nh ch] w (RPB w00.heap.size w A (l ++ encC cg) (n + 400000)) := by
  have HE := EncF.of hv
  obtain ⟨kd, us, nt, ts, tn, os, on, tx, z, hs⟩ := cg
  obtain ⟨b1, b2, b3, bt, bo, bk, bh⟩ := HE
  simp only [] at hkd b1 b2 b3 bt bo bk bh h
  have hwz := hw.size
  subst hkd
  have hU : fU 4 = true := rfl
  have hN : fN 4 = false := rfl
  have hT : fT 4 = true := rfl
  have hO : fO 4 = true := rfl
  have hK : fK 4 = true := rfl
  have hH : fH 4 = false := rfl
  obtain ⟨bt0, bt1, bt2⟩ := bt hT
  obtain ⟨bo0, bo1, bo2⟩ := bo hO
  obtain ⟨bk0, bk1⟩ := bk hK
  have hw1 : True = True := rfl
  have HEN : Hid (l ++ encC ⟨4, us, nt, ts, tn, os, on, tx, z, hs⟩ = l ++ nmb (4 : Int).toNat ++ txt us ++ ttl ts tn ++ ttl os on ++ nmb z.toNat) := Lib.hid (by simp [encC, iff', hU, hN, hT, hO, hK, hH])
  have HU := Lib.hid (uses_any 4)
  unfold usesF at HU
  rw [hU, hN, hT, hO, hK, hH] at HU
  clear bt bo bk bh hv hw1 hU hN hT hO hK hH
  unfold cval
  simp only []
  have hb0 : w00.heap.size ≤ w.heap.size := hw.size
  have kb0 : (w.alloc (.cells #[.int .i64 4, .string us, .string nt, .int .i64 ts, .string tn, .int .i64 os, .string on, .string tx, .int .i64 z, .slice Ah nh ch] 31)).heap[w.heap.size]? = some (.cells #[.int .i64 4, .string us, .string nt, .int .i64 ts, .string tn, .int .i64 os, .string on, .string tx, .int .i64 z, .slice Ah nh ch] 31 (0, 0)) := heap_new rfl
  have ho0 : OwB (w.alloc (.cells #[.int .i64 4, .string us, .string nt, .int .i64 ts, .string tn, .int .i64 os, .string on, .string tx, .int .i64 z, .slice Ah nh ch] 31)) w00.heap.size 5 A n c l := ho.alloc _
  have hG0 : OwG w00.heap.size w (w.alloc (.cells #[.int .i64 4, .string us, .string nt, .int .i64 ts, .string tn, .int .i64 os, .string on, .string tx, .int .i64 z, .slice Ah nh ch] 31)) A A := (OwG.refl _ _ _).al hb0 _
  have hz0 : w00.heap.size ≤ (w.alloc (.cells #[.int .i64 4, .string us, .string nt, .int .i64 ts, .string tn, .int .i64 os, .string on, .string tx, .int .i64 z, .slice Ah nh ch] 31)).heap.size := by rw [size_alloc_]; omega
  have hn0 : n ≤ n := Nat.le_refl _
  clear ho hwz
  go_enter Tryd.func28, Tryd.ntmps28
  go_upto_region 1 with fail
  generalize w.alloc (.cells #[.int .i64 4, .string us, .string nt, .int .i64 ts, .string tn, .int .i64 os, .string on, .string tx, .int .i64 z, .slice Ah nh ch] 31) = w0 at *
  have kc0 := Blk.cell kb0
  go_wp2_with fail
  go_at_call 30
  refine (HU.out _).mono ?_
  rintro e w1 ⟨rfl, hb1⟩
  have kb1 := heap_call hb1 kb0
  have ho1 := OwB.call hb1 ho0
  have hG1 := hG0.below hb1 hb0
  have hz1 := Nat.le_trans hz0 hb1.size
  clear kb0 kc0 ho0 hG0 hz0 hb1 HU
  go_upto_region 2 with fail
  have kb0 := heap_old (o := .cells #[.bool true, .bool false, .bool true, .bool true, .bool false, .bool true, .bool false] 72) kb1
  have kf0 : (w1.alloc (.cells #[.bool true, .bool false, .bool true, .bool true, .bool false, .bool true, .bool false] 72)).heap[w1.heap.size]? = some (.cells #[.bool true, .bool false, .bool true, .bool true, .bool false, .bool true, .bool false] 72 (0, 0)) := heap_new rfl
  have ho0 := OwB.alloc (.cells #[.bool true, .bool false, .bool true, .bool true, .bool false, .bool true, .bool false] 72) ho1
  have hG0 := hG1.al hb0 (.cells #[.bool true, .bool false, .bool true, .bool true, .bool false, .bool true, .bool false] 72)
  have hz0 : w00.heap.size ≤ (w1.alloc (.cells #[.bool true, .bool false, .bool true, .bool true, .bool false, .bool true, .bool false] 72)).heap.size := by rw [size_alloc_]; omega
  clear kb1 ho1 hG1 hz1
  generalize w1.alloc (.cells #[.bool true, .bool false, .bool true, .bool true, .bool false, .bool true, .bool false] 72) = w0 at *
  generalize w1.heap.size = gf at *
  have kc0 := Blk.cell kb0
  have kq0 := Blk.cell kf0
  go_wp2_with fail
  go_at_call 27
  refine (num_b A n c (l) w00.heap.size n (4 : Int) w0 ho0 hz0 hn0 (by omega) (by omega) (by omega)).mono ?_
  rintro e w1 ⟨A1, n1, c1, rfl, ho1, hg1, hn1⟩
  have kb1 := hg1.heap (OwB.block_ne ho0 kb0 (by decide)) kb0
  have kf1 := hg1.heap (OwB.block_ne ho0 kf0 (by decide)) kf0
  have kc1 := Blk.cell kb1
  have kq1 := Blk.cell kf1
  have hz1 := Nat.le_trans hz0 hg1.g.size
  have hG1 := hG0.trans hg1
  clear kb0 kc0 ho0 hg1 hG0 hz0 kf0 kq0
  go_wp2_with fail
  go_at_call 45
  refine (text_b A1 n1 c1 (l ++ nmb (4 : Int).toNat) w00.heap.size (n + 6) 30 us w1 ho1 hz1 hn1 (by omega) b1 (by omega)).mono ?_
  rintro e w2 ⟨A2, n2, c2, rfl, ho2, hg2, hn2⟩
  have kb2 := hg2.heap (OwB.block_ne ho1 kb1 (by decide)) kb1
  have kf2 := hg2.heap (OwB.block_ne ho1 kf1 (by decide)) kf1
  have kc2 := Blk.cell kb2
  have kq2 := Blk.cell kf2
  have hz2 := Nat.le_trans hz1 hg2.g.size
  have hG2 := hG1.trans hg2
  clear kb1 kc1 ho1 hg2 hG1 hz1 kf1 kq1
  go_wp2_with fail
  go_at_call 46
  refine (title_b A2 n2 c2 (l ++ nmb (4 : Int).toNat ++ txt us) w00.heap.size ((n + 6) + 30 + 6) ts tn w2 ho2 hz2 hn2 (by omega) bt0 bt1 bt2).mono ?_
  rintro e w3 ⟨A3, n3, c3, rfl, ho3, hg3, hn3⟩
  have kb3 := hg3.heap (OwB.block_ne ho2 kb2 (by decide)) kb2
  have kf3 := hg3.heap (OwB.block_ne ho2 kf2 (by decide)) kf2
  have kc3 := Blk.cell kb3
  have kq3 := Blk.cell kf3
  have hz3 := Nat.le_trans hz2 hg3.g.size
  have hG3 := hG2.trans hg3
  clear kb2 kc2 ho2 hg3 hG2 hz2 kf2 kq2
  go_wp2_with fail
  go_at_call 46
  refine (title_b A3 n3 c3 (l ++ nmb (4 : Int).toNat ++ txt us ++ ttl ts tn) w00.heap.size (((n + 6) + 30 + 6) + 120) os on w3 ho3 hz3 hn3 (by omega) bo0 bo1 bo2).mono ?_
  rintro e w4 ⟨A4, n4, c4, rfl, ho4, hg4, hn4⟩
  have kb4 := hg4.heap (OwB.block_ne ho3 kb3 (by decide)) kb3
  have kf4 := hg4.heap (OwB.block_ne ho3 kf3 (by decide)) kf3
  have kc4 := Blk.cell kb4
  have kq4 := Blk.cell kf4
  have hz4 := Nat.le_trans hz3 hg4.g.size
  have hG4 := hG3.trans hg4
  clear kb3 kc3 ho3 hg4 hG3 hz3 kf3 kq3
  go_wp2_with fail
  go_at_call 27
  refine (num_b A4 n4 c4 (l ++ nmb (4 : Int).toNat ++ txt us ++ ttl ts tn ++ ttl os on) w00.heap.size ((((n + 6) + 30 + 6) + 120) + 120) z w4 ho4 hz4 hn4 (by omega) bk0 bk1).mono ?_
  rintro e w5 ⟨A5, n5, c5, rfl, ho5, hg5, hn5⟩
  have kb5 := hg5.heap (OwB.block_ne ho4 kb4 (by decide)) kb4
  have kf5 := hg5.heap (OwB.block_ne ho4 kf4 (by decide)) kf4
  have kc5 := Blk.cell kb5
  have kq5 := Blk.cell kf5
  have hz5 := Nat.le_trans hz4 hg5.g.size
  have hG5 := hG4.trans hg5
  clear kb4 kc4 ho4 hg5 hG4 hz4 kf4 kq4
  go_wp2_with fail
  go_ret
  exact ⟨A5, n5, c5, rfl, by rw [HEN.out]; exact ho5, hG5, by omega⟩
end Go.Proofs.YtbeijpajodgpeaaDoor
/- The walk of change.put (b). Printed by gen_c13.py -/
namespace Go.Proofs.YtbeijpajodgpeaaDoor
open Go.RowKit
set_option linter.unusedSimpArgs false
set_option linter.unusedVariables false

set_option maxRecDepth 100000 in
set_option maxHeartbeats 16000000 in
theorem put_6 (w00 : World) (A : Option Addr) (n c : Nat) (l : List UInt8) (cg : Cg) (Ah : Option Addr) (nh ch : Nat) (w : World) (ho : OwB w w00.heap.size 5 A n c l) (hw : Below w00.heap.size w00 w) (h : RdR RV 6 w00 Ah nh ch cg.hs) (hv : cv cg = 0) (hn : n ≤ 16777216) (hkd : cg.kd = 6) :
    Calls Tryd.prog 28 #[.slice A n c, cval cg Ah nh ch] w (RPB w00.heap.size w A (l ++ encC cg) (n + 400000)) := by
  have HE := EncF.of hv
  obtain ⟨kd, us, nt, ts, tn, os, on, tx, z, hs⟩ := cg
  obtain ⟨b1, b2, b3, bt, bo, bk, bh⟩ := HE
  simp only [] at hkd b1 b2 b3 bt bo bk bh h
  have hwz := hw.size
  subst hkd
  have hU : fU 6 = false := rfl
  have hN : fN 6 = false := rfl
  have hT : fT 6 = false := rfl
  have hO : fO 6 = false := rfl
  have hK : fK 6 = true := rfl
  have hH : fH 6 = false := rfl
  obtain ⟨bk0, bk1⟩ := bk hK
  have hw1 : True = True := rfl
  have HEN : Hid (l ++ encC ⟨6, us, nt, ts, tn, os, on, tx, z, hs⟩ = l ++ nmb (6 : Int).toNat ++ nmb z.toNat) := Lib.hid (by simp [encC, iff', hU, hN, hT, hO, hK, hH])
  have HU := Lib.hid (uses_any 6)
  unfold usesF at HU
  rw [hU, hN, hT, hO, hK, hH] at HU
  clear bt bo bk bh hv hw1 hU hN hT hO hK hH
  unfold cval
  simp only []
  have hb0 : w00.heap.size ≤ w.heap.size := hw.size
  have kb0 : (w.alloc (.cells #[.int .i64 6, .string us, .string nt, .int .i64 ts, .string tn, .int .i64 os, .string on, .string tx, .int .i64 z, .slice Ah nh ch] 31)).heap[w.heap.size]? = some (.cells #[.int .i64 6, .string us, .string nt, .int .i64 ts, .string tn, .int .i64 os, .string on, .string tx, .int .i64 z, .slice Ah nh ch] 31 (0, 0)) := heap_new rfl
  have ho0 : OwB (w.alloc (.cells #[.int .i64 6, .string us, .string nt, .int .i64 ts, .string tn, .int .i64 os, .string on, .string tx, .int .i64 z, .slice Ah nh ch] 31)) w00.heap.size 5 A n c l := ho.alloc _
  have hG0 : OwG w00.heap.size w (w.alloc (.cells #[.int .i64 6, .string us, .string nt, .int .i64 ts, .string tn, .int .i64 os, .string on, .string tx, .int .i64 z, .slice Ah nh ch] 31)) A A := (OwG.refl _ _ _).al hb0 _
  have hz0 : w00.heap.size ≤ (w.alloc (.cells #[.int .i64 6, .string us, .string nt, .int .i64 ts, .string tn, .int .i64 os, .string on, .string tx, .int .i64 z, .slice Ah nh ch] 31)).heap.size := by rw [size_alloc_]; omega
  have hn0 : n ≤ n := Nat.le_refl _
  clear ho hwz
  go_enter Tryd.func28, Tryd.ntmps28
  go_upto_region 1 with fail
  generalize w.alloc (.cells #[.int .i64 6, .string us, .string nt, .int .i64 ts, .string tn, .int .i64 os, .string on, .string tx, .int .i64 z, .slice Ah nh ch] 31) = w0 at *
  have kc0 := Blk.cell kb0
  go_wp2_with fail
  go_at_call 30
  refine (HU.out _).mono ?_
  rintro e w1 ⟨rfl, hb1⟩
  have kb1 := heap_call hb1 kb0
  have ho1 := OwB.call hb1 ho0
  have hG1 := hG0.below hb1 hb0
  have hz1 := Nat.le_trans hz0 hb1.size
  clear kb0 kc0 ho0 hG0 hz0 hb1 HU
  go_upto_region 2 with fail
  have kb0 := heap_old (o := .cells #[.bool false, .bool false, .bool false, .bool false, .bool false, .bool true, .bool false] 72) kb1
  have kf0 : (w1.alloc (.cells #[.bool false, .bool false, .bool false, .bool false, .bool false, .bool true, .bool false] 72)).heap[w1.heap.size]? = some (.cells #[.bool false, .bool false, .bool false, .bool false, .bool false, .bool true, .bool false] 72 (0, 0)) := heap_new rfl
  have ho0 := OwB.alloc (.cells #[.bool false, .bool false, .bool false, .bool false, .bool false, .bool true, .bool false] 72) ho1
  have hG0 := hG1.al hb0 (.cells #[.bool false, .bool false, .bool false, .bool false, .bool false, .bool true, .bool false] 72)
  have hz0 : w00.heap.size ≤ (w1.alloc (.cells #[.bool false, .bool false, .bool false, .bool false, .bool false, .bool true, .bool false] 72)).heap.size := by rw [size_alloc_]; omega
  clear kb1 ho1 hG1 hz1
  generalize w1.alloc (.cells #[.bool false, .bool false, .bool false, .bool false, .bool false, .bool true, .bool false] 72) = w0 at *
  generalize w1.heap.size = gf at *
  have kc0 := Blk.cell kb0
  have kq0 := Blk.cell kf0
  go_wp2_with fail
  go_at_call 27
  refine (num_b A n c (l) w00.heap.size n (6 : Int) w0 ho0 hz0 hn0 (by omega) (by omega) (by omega)).mono ?_
  rintro e w1 ⟨A1, n1, c1, rfl, ho1, hg1, hn1⟩
  have kb1 := hg1.heap (OwB.block_ne ho0 kb0 (by decide)) kb0
  have kf1 := hg1.heap (OwB.block_ne ho0 kf0 (by decide)) kf0
  have kc1 := Blk.cell kb1
  have kq1 := Blk.cell kf1
  have hz1 := Nat.le_trans hz0 hg1.g.size
  have hG1 := hG0.trans hg1
  clear kb0 kc0 ho0 hg1 hG0 hz0 kf0 kq0
  go_wp2_with fail
  go_at_call 27
  refine (num_b A1 n1 c1 (l ++ nmb (6 : Int).toNat) w00.heap.size (n + 6) z w1 ho1 hz1 hn1 (by omega) bk0 bk1).mono ?_
  rintro e w2 ⟨A2, n2, c2, rfl, ho2, hg2, hn2⟩
  have kb2 := hg2.heap (OwB.block_ne ho1 kb1 (by decide)) kb1
  have kf2 := hg2.heap (OwB.block_ne ho1 kf1 (by decide)) kf1
  have kc2 := Blk.cell kb2
  have kq2 := Blk.cell kf2
  have hz2 := Nat.le_trans hz1 hg2.g.size
  have hG2 := hG1.trans hg2
  clear kb1 kc1 ho1 hg2 hG1 hz1 kf1 kq1
  go_wp2_with fail
  go_ret
  exact ⟨A2, n2, c2, rfl, by rw [HEN.out]; exact ho2, hG2, by omega⟩
set_option maxRecDepth 100000 in
set_option maxHeartbeats 16000000 in
theorem put_9 (w00 : World) (A : Option Addr) (n c : Nat) (l : List UInt8) (cg : Cg) (Ah : Option Addr) (nh ch : Nat) (w : World) (ho : OwB w w00.heap.size 5 A n c l) (hw : Below w00.heap.size w00 w) (h : RdR RV 6 w00 Ah nh ch cg.hs) (hv : cv cg = 0) (hn : n ≤ 16777216) (hkd : cg.kd = 9) :
    Calls Tryd.prog 28 #[.slice A n c, cval cg Ah nh ch] w (RPB w00.heap.size w A (l ++ encC cg) (n + 400000)) := by
  have HE := EncF.of hv
  obtain ⟨kd, us, nt, ts, tn, os, on, tx, z, hs⟩ := cg
  obtain ⟨b1, b2, b3, bt, bo, bk, bh⟩ := HE
  simp only [] at hkd b1 b2 b3 bt bo bk bh h
  have hwz := hw.size
  subst hkd
  have hU : fU 9 = true := rfl
  have hN : fN 9 = true := rfl
  have hT : fT 9 = true := rfl
  have hO : fO 9 = false := rfl
  have hK : fK 9 = true := rfl
  have hH : fH 9 = false := rfl
  obtain ⟨bt0, bt1, bt2⟩ := bt hT
  obtain ⟨bk0, bk1⟩ := bk hK
  have hw1 : True = True := rfl
  have HEN : Hid (l ++ encC ⟨9, us, nt, ts, tn, os, on, tx, z, hs⟩ = l ++ nmb (9 : Int).toNat ++ txt us ++ txt nt ++ ttl ts tn ++ txt tx ++ nmb z.toNat) := Lib.hid (by simp [encC, iff', hU, hN, hT, hO, hK, hH])
  have HU := Lib.hid (uses_any 9)
  unfold usesF at HU
  rw [hU, hN, hT, hO, hK, hH] at HU
  clear bt bo bk bh hv hw1 hU hN hT hO hK hH
  unfold cval
  simp only []
  have hb0 : w00.heap.size ≤ w.heap.size := hw.size
  have kb0 : (w.alloc (.cells #[.int .i64 9, .string us, .string nt, .int .i64 ts, .string tn, .int .i64 os, .string on, .string tx, .int .i64 z, .slice Ah nh ch] 31)).heap[w.heap.size]? = some (.cells #[.int .i64 9, .string us, .string nt, .int .i64 ts, .string tn, .int .i64 os, .string on, .string tx, .int .i64 z, .slice Ah nh ch] 31 (0, 0)) := heap_new rfl
  have ho0 : OwB (w.alloc (.cells #[.int .i64 9, .string us, .string nt, .int .i64 ts, .string tn, .int .i64 os, .string on, .string tx, .int .i64 z, .slice Ah nh ch] 31)) w00.heap.size 5 A n c l := ho.alloc _
  have hG0 : OwG w00.heap.size w (w.alloc (.cells #[.int .i64 9, .string us, .string nt, .int .i64 ts, .string tn, .int .i64 os, .string on, .string tx, .int .i64 z, .slice Ah nh ch] 31)) A A := (OwG.refl _ _ _).al hb0 _
  have hz0 : w00.heap.size ≤ (w.alloc (.cells #[.int .i64 9, .string us, .string nt, .int .i64 ts, .string tn, .int .i64 os, .string on, .string tx, .int .i64 z, .slice Ah nh ch] 31)).heap.size := by rw [size_alloc_]; omega
  have hn0 : n ≤ n := Nat.le_refl _
  clear ho hwz
  go_enter Tryd.func28, Tryd.ntmps28
  go_upto_region 1 with fail
  generalize w.alloc (.cells #[.int .i64 9, .string us, .string nt, .int .i64 ts, .string tn, .int .i64 os, .string on, .string tx, .int .i64 z, .slice Ah nh ch] 31) = w0 at *
  have kc0 := Blk.cell kb0
  go_wp2_with fail
  go_at_call 30
  refine (HU.out _).mono ?_
  rintro e w1 ⟨rfl, hb1⟩
  have kb1 := heap_call hb1 kb0
  have ho1 := OwB.call hb1 ho0
  have hG1 := hG0.below hb1 hb0
  have hz1 := Nat.le_trans hz0 hb1.size
  clear kb0 kc0 ho0 hG0 hz0 hb1 HU
  go_upto_region 2 with fail
  have kb0 := heap_old (o := .cells #[.bool true, .bool true, .bool true, .bool false, .bool true, .bool true, .bool false] 72) kb1
  have kf0 : (w1.alloc (.cells #[.bool true, .bool true, .bool true, .bool false, .bool true, .bool true, .bool false] 72)).heap[w1.heap.size]? = some (.cells #[.bool true, .bool true, .bool true, .bool false, .bool true, .bool true, .bool false] 72 (0, 0)) := heap_new rfl
  have ho0 := OwB.alloc (.cells #[.bool true, .bool true, .bool true, .bool false, .bool true, .bool true, .bool false] 72) ho1
  have hG0 := hG1.al hb0 (.cells #[.bool true, .bool true, .bool true, .bool false, .bool true, .bool true, .bool false] 72)
  have hz0 : w00.heap.size ≤ (w1.alloc (.cells #[.bool true, .bool true, .bool true, .bool false, .bool true, .bool true, .bool false] 72)).heap.size := by rw [size_alloc_]; omega
  clear kb1 ho1 hG1 hz1
  generalize w1.alloc (.cells #[.bool true, .bool true, .bool true, .bool false, .bool true, .bool true, .bool false] 72) = w0 at *
  generalize w1.heap.size = gf at *
  have kc0 := Blk.cell kb0
  have kq0 := Blk.cell kf0
  go_wp2_with fail
  go_at_call 27
  refine (num_b A n c (l) w00.heap.size n (9 : Int) w0 ho0 hz0 hn0 (by omega) (by omega) (by omega)).mono ?_
  rintro e w1 ⟨A1, n1, c1, rfl, ho1, hg1, hn1⟩
  have kb1 := hg1.heap (OwB.block_ne ho0 kb0 (by decide)) kb0
  have kf1 := hg1.heap (OwB.block_ne ho0 kf0 (by decide)) kf0
  have kc1 := Blk.cell kb1
  have kq1 := Blk.cell kf1
  have hz1 := Nat.le_trans hz0 hg1.g.size
  have hG1 := hG0.trans hg1
  clear kb0 kc0 ho0 hg1 hG0 hz0 kf0 kq0
  go_wp2_with fail
  go_at_call 45
  refine (text_b A1 n1 c1 (l ++ nmb (9 : Int).toNat) w00.heap.size (n + 6) 30 us w1 ho1 hz1 hn1 (by omega) b1 (by omega)).mono ?_
  rintro e w2 ⟨A2, n2, c2, rfl, ho2, hg2, hn2⟩
  have kb2 := hg2.heap (OwB.block_ne ho1 kb1 (by decide)) kb1
  have kf2 := hg2.heap (OwB.block_ne ho1 kf1 (by decide)) kf1
  have kc2 := Blk.cell kb2
  have kq2 := Blk.cell kf2
  have hz2 := Nat.le_trans hz1 hg2.g.size
  have hG2 := hG1.trans hg2
  clear kb1 kc1 ho1 hg2 hG1 hz1 kf1 kq1
  go_wp2_with fail
  go_at_call 45
  refine (text_b A2 n2 c2 (l ++ nmb (9 : Int).toNat ++ txt us) w00.heap.size ((n + 6) + 30 + 6) 200 nt w2 ho2 hz2 hn2 (by omega) b2 (by omega)).mono ?_
  rintro e w3 ⟨A3, n3, c3, rfl, ho3, hg3, hn3⟩
  have kb3 := hg3.heap (OwB.block_ne ho2 kb2 (by decide)) kb2
  have kf3 := hg3.heap (OwB.block_ne ho2 kf2 (by decide)) kf2
  have kc3 := Blk.cell kb3
  have kq3 := Blk.cell kf3
  have hz3 := Nat.le_trans hz2 hg3.g.size
  have hG3 := hG2.trans hg3
  clear kb2 kc2 ho2 hg3 hG2 hz2 kf2 kq2
  go_wp2_with fail
  go_at_call 46
  refine (title_b A3 n3 c3 (l ++ nmb (9 : Int).toNat ++ txt us ++ txt nt) w00.heap.size (((n + 6) + 30 + 6) + 200 + 6) ts tn w3 ho3 hz3 hn3 (by omega) bt0 bt1 bt2).mono ?_
  rintro e w4 ⟨A4, n4, c4, rfl, ho4, hg4, hn4⟩
  have kb4 := hg4.heap (OwB.block_ne ho3 kb3 (by decide)) kb3
  have kf4 := hg4.heap (OwB.block_ne ho3 kf3 (by decide)) kf3
  have kc4 := Blk.cell kb4
  have kq4 := Blk.cell kf4
  have hz4 := Nat.le_trans hz3 hg4.g.size
  have hG4 := hG3.trans hg4
  clear kb3 kc3 ho3 hg4 hG3 hz3 kf3 kq3
  go_wp2_with fail
  go_at_call 45
  refine (text_b A4 n4 c4 (l ++ nmb (9 : Int).toNat ++ txt us ++ txt nt ++ ttl ts tn) w00.heap.size ((((n + 6) + 30 + 6) + 200 + 6) + 120) 8192 tx w4 ho4 hz4 hn4 (by omega) b3 (by omega)).mono ?_
  rintro e w5 ⟨A5, n5, c5, rfl, ho5, hg5, hn5⟩
  have kb5 := hg5.heap (OwB.block_ne ho4 kb4 (by decide)) kb4
  have kf5 := hg5.heap (OwB.block_ne ho4 kf4 (by decide)) kf4
  have kc5 := Blk.cell kb5
  have kq5 := Blk.cell kf5
  have hz5 := Nat.le_trans hz4 hg5.g.size
  have hG5 := hG4.trans hg5
  clear kb4 kc4 ho4 hg5 hG4 hz4 kf4 kq4
  go_wp2_with fail
  go_at_call 27
  refine (num_b A5 n5 c5 (l ++ nmb (9 : Int).toNat ++ txt us ++ txt nt ++ ttl ts tn ++ txt tx) w00.heap.size (((((n + 6) + 30 + 6) + 200 + 6) + 120) + 8192 + 6) z w5 ho5 hz5 hn5 (by omega) bk0 bk1).mono ?_
  rintro e w6 ⟨A6, n6, c6, rfl, ho6, hg6, hn6⟩
  have kb6 := hg6.heap (OwB.block_ne ho5 kb5 (by decide)) kb5
  have kf6 := hg6.heap (OwB.block_ne ho5 kf5 (by decide)) kf5
  have kc6 := Blk.cell kb6
  have kq6 := Blk.cell kf6
  have hz6 := Nat.le_trans hz5 hg6.g.size
  have hG6 := hG5.trans hg6
  clear kb5 kc5 ho5 hg6 hG5 hz5 kf5 kq5
  go_wp2_with fail
  go_ret
  exact ⟨A6, n6, c6, rfl, by rw [HEN.out]; exact ho6, hG6, by omega⟩
set_option maxRecDepth 100000 in
set_option maxHeartbeats 16000000 in
theorem put_10 (w00 : World) (A : Option Addr) (n c : Nat) (l : List UInt8) (cg : Cg) (Ah : Option Addr) (nh ch : Nat) (w : World) (ho : OwB w w00.heap.size 5 A n c l) (hw : Below w00.heap.size w00 w) (h : RdR RV 6 w00 Ah nh ch cg.hs) (hv : cv cg = 0) (hn : n ≤ 16777216) (hkd : cg.kd = 10) :
    Calls Tryd.prog 28 #[.slice A n c, cval cg Ah nh ch] w (RPB w00.heap.size w A (l ++ encC cg) (n + 400000)) := by
  have HE := EncF.of hv
  obtain ⟨kd, us, nt, ts, tn, os, on, tx, z, hs⟩ := cg
  obtain ⟨b1, b2, b3, bt, bo, bk, bh⟩ := HE
  simp only [] at hkd b1 b2 b3 bt bo bk bh h
  have hwz := hw.size
  subst hkd
  have hU : fU 10 = true := rfl
  have hN : fN 10 = false := rfl
  have hT : fT 10 = false := rfl
  have hO : fO 10 = false := rfl
  have hK : fK 10 = true := rfl
  have hH : fH 10 = false := rfl
  obtain ⟨bk0, bk1⟩ := bk hK
  have hw1 : True = True := rfl
  have HEN : Hid (l ++ encC ⟨10, us, nt, ts, tn, os, on, tx, z, hs⟩ = l ++ nmb (10 : Int).toNat ++ txt us ++ nmb z.toNat) := Lib.hid (by simp [encC, iff', hU, hN, hT, hO, hK, hH])
  have HU := Lib.hid (uses_any 10)
  unfold usesF at HU
  rw [hU, hN, hT, hO, hK, hH] at HU
  clear bt bo bk bh hv hw1 hU hN hT hO hK hH
  unfold cval
  simp only []
  have hb0 : w00.heap.size ≤ w.heap.size := hw.size
  have kb0 : (w.alloc (.cells #[.int .i64 10, .string us, .string nt, .int .i64 ts, .string tn, .int .i64 os, .string on, .string tx, .int .i64 z, .slice Ah nh ch] 31)).heap[w.heap.size]? = some (.cells #[.int .i64 10, .string us, .string nt, .int .i64 ts, .string tn, .int .i64 os, .string on, .string tx, .int .i64 z, .slice Ah nh ch] 31 (0, 0)) := heap_new rfl
  have ho0 : OwB (w.alloc (.cells #[.int .i64 10, .string us, .string nt, .int .i64 ts, .string tn, .int .i64 os, .string on, .string tx, .int .i64 z, .slice Ah nh ch] 31)) w00.heap.size 5 A n c l := ho.alloc _
  have hG0 : OwG w00.heap.size w (w.alloc (.cells #[.int .i64 10, .string us, .string nt, .int .i64 ts, .string tn, .int .i64 os, .string on, .string tx, .int .i64 z, .slice Ah nh ch] 31)) A A := (OwG.refl _ _ _).al hb0 _
  have hz0 : w00.heap.size ≤ (w.alloc (.cells #[.int .i64 10, .string us, .string nt, .int .i64 ts, .string tn, .int .i64 os, .string on, .string tx, .int .i64 z, .slice Ah nh ch] 31)).heap.size := by rw [size_alloc_]; omega
  have hn0 : n ≤ n := Nat.le_refl _
  clear ho hwz
  go_enter Tryd.func28, Tryd.ntmps28
  go_upto_region 1 with fail
  generalize w.alloc (.cells #[.int .i64 10, .string us, .string nt, .int .i64 ts, .string tn, .int .i64 os, .string on, .string tx, .int .i64 z, .slice Ah nh ch] 31) = w0 at *
  have kc0 := Blk.cell kb0
  go_wp2_with fail
  go_at_call 30
  refine (HU.out _).mono ?_
  rintro e w1 ⟨rfl, hb1⟩
  have kb1 := heap_call hb1 kb0
  have ho1 := OwB.call hb1 ho0
  have hG1 := hG0.below hb1 hb0
  have hz1 := Nat.le_trans hz0 hb1.size
  clear kb0 kc0 ho0 hG0 hz0 hb1 HU
  go_upto_region 2 with fail
  have kb0 := heap_old (o := .cells #[.bool true, .bool false, .bool false, .bool false, .bool false, .bool true, .bool false] 72) kb1
  have kf0 : (w1.alloc (.cells #[.bool true, .bool false, .bool false, .bool false, .bool false, .bool true, .bool false] 72)).heap[w1.heap.size]? = some (.cells #[.bool true, .bool false, .bool false, .bool false, .bool false, .bool true, .bool false] 72 (0, 0)) := heap_new rfl
  have ho0 := OwB.alloc (.cells #[.bool true, .bool false, .bool false, .bool false, .bool false, .bool true, .bool false] 72) ho1
  have hG0 := hG1.al hb0 (.cells #[.bool true, .bool false, .bool false, .bool false, .bool false, .bool true, .bool false] 72)
  have hz0 : w00.heap.size ≤ (w1.alloc (.cells #[.bool true, .bool false, .bool false, .bool false, .bool false, .bool true, .bool false] 72)).heap.size := by rw [size_alloc_]; omega
  clear kb1 ho1 hG1 hz1
  generalize w1.alloc (.cells #[.bool true, .bool false, .bool false, .bool false, .bool false, .bool true, .bool false] 72) = w0 at *
  generalize w1.heap.size = gf at *
  have kc0 := Blk.cell kb0
  have kq0 := Blk.cell kf0
  go_wp2_with fail
  go_at_call 27
  refine (num_b A n c (l) w00.heap.size n (10 : Int) w0 ho0 hz0 hn0 (by omega) (by omega) (by omega)).mono ?_
  rintro e w1 ⟨A1, n1, c1, rfl, ho1, hg1, hn1⟩
  have kb1 := hg1.heap (OwB.block_ne ho0 kb0 (by decide)) kb0
  have kf1 := hg1.heap (OwB.block_ne ho0 kf0 (by decide)) kf0
  have kc1 := Blk.cell kb1
  have kq1 := Blk.cell kf1
  have hz1 := Nat.le_trans hz0 hg1.g.size
  have hG1 := hG0.trans hg1
  clear kb0 kc0 ho0 hg1 hG0 hz0 kf0 kq0
  go_wp2_with fail
  go_at_call 45
  refine (text_b A1 n1 c1 (l ++ nmb (10 : Int).toNat) w00.heap.size (n + 6) 30 us w1 ho1 hz1 hn1 (by omega) b1 (by omega)).mono ?_
  rintro e w2 ⟨A2, n2, c2, rfl, ho2, hg2, hn2⟩
  have kb2 := hg2.heap (OwB.block_ne ho1 kb1 (by decide)) kb1
  have kf2 := hg2.heap (OwB.block_ne ho1 kf1 (by decide)) kf1
  have kc2 := Blk.cell kb2
  have kq2 := Blk.cell kf2
  have hz2 := Nat.le_trans hz1 hg2.g.size
  have hG2 := hG1.trans hg2
  clear kb1 kc1 ho1 hg2 hG1 hz1 kf1 kq1
  go_wp2_with fail
  go_at_call 27
  refine (num_b A2 n2 c2 (l ++ nmb (10 : Int).toNat ++ txt us) w00.heap.size ((n + 6) + 30 + 6) z w2 ho2 hz2 hn2 (by omega) bk0 bk1).mono ?_
  rintro e w3 ⟨A3, n3, c3, rfl, ho3, hg3, hn3⟩
  have kb3 := hg3.heap (OwB.block_ne ho2 kb2 (by decide)) kb2
  have kf3 := hg3.heap (OwB.block_ne ho2 kf2 (by decide)) kf2
  have kc3 := Blk.cell kb3
  have kq3 := Blk.cell kf3
  have hz3 := Nat.le_trans hz2 hg3.g.size
  have hG3 := hG2.trans hg3
  clear kb2 kc2 ho2 hg3 hG2 hz2 kf2 kq2
  go_wp2_with fail
  go_ret
  exact ⟨A3, n3, c3, rfl, by rw [HEN.out]; exact ho3, hG3, by omega⟩
end Go.Proofs.YtbeijpajodgpeaaDoor
/- The walk of change.put (c). Printed by gen_c13.py -/
namespace Go.Proofs.YtbeijpajodgpeaaDoor
open Go.RowKit
set_option linter.unusedSimpArgs false
set_option linter.unusedVariables false

set_option maxRecDepth 100000 in
set_option maxHeartbeats 16000000 in
theorem put_5 (w00 : World) (A : Option Addr) (n c : Nat) (l : List UInt8) (cg : Cg) (Ah : Option Addr) (nh ch : Nat) (w : World) (ho : OwB w w00.heap.size 5 A n c l) (hw : Below w00.heap.size w00 w) (h : RdR RV 6 w00 Ah nh ch cg.hs) (hv : cv cg = 0) (hn : n ≤ 16777216) (hkd : cg.kd = 5) :
    Calls Tryd.prog 28 #[.slice A n c, cval cg Ah nh ch] w (RPB w00.heap.size w A (l ++ encC cg) (n + 400000)) := by
  have HE := EncF.of hv
  obtain ⟨kd, us, nt, ts, tn, os, on, tx, z, hs⟩ := cg
  obtain ⟨b1, b2, b3, bt, bo, bk, bh⟩ := HE
  simp only [] at hkd b1 b2 b3 bt bo bk bh h
  have hwz := hw.size
  subst hkd
  have hU : fU 5 = true := rfl
  have hN : fN 5 = false := rfl
  have hT : fT 5 = true := rfl
  have hO : fO 5 = false := rfl
  have hK : fK 5 = false := rfl
  have hH : fH 5 = true := rfl
  obtain ⟨bt0, bt1, bt2⟩ := bt hT
  obtain ⟨bh0, bh1⟩ := bh hH
  have hw1 : True = True := rfl
  have HEN : Hid (l ++ encC ⟨5, us, nt, ts, tn, os, on, tx, z, hs⟩ = l ++ nmb (5 : Int).toNat ++ txt us ++ ttl ts tn ++ nmb hs.length ++ encH hs) := Lib.hid (by simp [encC, iff', hU, hN, hT, hO, hK, hH])
  have HU := Lib.hid (uses_any 5)
  unfold usesF at HU
  rw [hU, hN, hT, hO, hK, hH] at HU
  clear bt bo bk bh hv hw1 hU hN hT hO hK hH
  unfold cval
  simp only []
  have hb0 : w00.heap.size ≤ w.heap.size := hw.size
  have kb0 : (w.alloc (.cells #[.int .i64 5, .string us, .string nt, .int .i64 ts, .string tn, .int .i64 os, .string on, .string tx, .int .i64 z, .slice Ah nh ch] 31)).heap[w.heap.size]? = some (.cells #[.int .i64 5, .string us, .string nt, .int .i64 ts, .string tn, .int .i64 os, .string on, .string tx, .int .i64 z, .slice Ah nh ch] 31 (0, 0)) := heap_new rfl
  have ho0 : OwB (w.alloc (.cells #[.int .i64 5, .string us, .string nt, .int .i64 ts, .string tn, .int .i64 os, .string on, .string tx, .int .i64 z, .slice Ah nh ch] 31)) w00.heap.size 5 A n c l := ho.alloc _
  have hG0 : OwG w00.heap.size w (w.alloc (.cells #[.int .i64 5, .string us, .string nt, .int .i64 ts, .string tn, .int .i64 os, .string on, .string tx, .int .i64 z, .slice Ah nh ch] 31)) A A := (OwG.refl _ _ _).al hb0 _
  have hz0 : w00.heap.size ≤ (w.alloc (.cells #[.int .i64 5, .string us, .string nt, .int .i64 ts, .string tn, .int .i64 os, .string on, .string tx, .int .i64 z, .slice Ah nh ch] 31)).heap.size := by rw [size_alloc_]; omega
  have hn0 : n ≤ n := Nat.le_refl _
  clear ho hwz
  go_enter Tryd.func28, Tryd.ntmps28
  go_upto_region 1 with fail
  generalize w.alloc (.cells #[.int .i64 5, .string us, .string nt, .int .i64 ts, .string tn, .int .i64 os, .string on, .string tx, .int .i64 z, .slice Ah nh ch] 31) = w0 at *
  have kc0 := Blk.cell kb0
  go_wp2_with fail
  go_at_call 30
  refine (HU.out _).mono ?_
  rintro e w1 ⟨rfl, hb1⟩
  have kb1 := heap_call hb1 kb0
  have ho1 := OwB.call hb1 ho0
  have hG1 := hG0.below hb1 hb0
  have hz1 := Nat.le_trans hz0 hb1.size
  clear kb0 kc0 ho0 hG0 hz0 hb1 HU
  go_upto_region 2 with fail
  have kb0 := heap_old (o := .cells #[.bool true, .bool false, .bool true, .bool false, .bool false, .bool false, .bool true] 72) kb1
  have kf0 : (w1.alloc (.cells #[.bool true, .bool false, .bool true, .bool false, .bool false, .bool false, .bool true] 72)).heap[w1.heap.size]? = some (.cells #[.bool true, .bool false, .bool true, .bool false, .bool false, .bool false, .bool true] 72 (0, 0)) := heap_new rfl
  have ho0 := OwB.alloc (.cells #[.bool true, .bool false, .bool true, .bool false, .bool false, .bool false, .bool true] 72) ho1
  have hG0 := hG1.al hb0 (.cells #[.bool true, .bool false, .bool true, .bool false, .bool false, .bool false, .bool true] 72)
  have hz0 : w00.heap.size ≤ (w1.alloc (.cells #[.bool true, .bool false, .bool true, .bool false, .bool false, .bool false, .bool true] 72)).heap.size := by rw [size_alloc_]; omega
  clear kb1 ho1 hG1 hz1
  generalize w1.alloc (.cells #[.bool true, .bool false, .bool true, .bool false, .bool false, .bool false, .bool true] 72) = w0 at *
  generalize w1.heap.size = gf at *
  have kc0 := Blk.cell kb0
  have kq0 := Blk.cell kf0
  go_wp2_with fail
  go_at_call 27
  refine (num_b A n c (l) w00.heap.size n (5 : Int) w0 ho0 hz0 hn0 (by omega) (by omega) (by omega)).mono ?_
  rintro e w1 ⟨A1, n1, c1, rfl, ho1, hg1, hn1⟩
  have kb1 := hg1.heap (OwB.block_ne ho0 kb0 (by decide)) kb0
  have kf1 := hg1.heap (OwB.block_ne ho0 kf0 (by decide)) kf0
  have kc1 := Blk.cell kb1
  have kq1 := Blk.cell kf1
  have hz1 := Nat.le_trans hz0 hg1.g.size
  have hG1 := hG0.trans hg1
  clear kb0 kc0 ho0 hg1 hG0 hz0 kf0 kq0
  go_wp2_with fail
  go_at_call 45
  refine (text_b A1 n1 c1 (l ++ nmb (5 : Int).toNat) w00.heap.size (n + 6) 30 us w1 ho1 hz1 hn1 (by omega) b1 (by omega)).mono ?_
  rintro e w2 ⟨A2, n2, c2, rfl, ho2, hg2, hn2⟩
  have kb2 := hg2.heap (OwB.block_ne ho1 kb1 (by decide)) kb1
  have kf2 := hg2.heap (OwB.block_ne ho1 kf1 (by decide)) kf1
  have kc2 := Blk.cell kb2
  have kq2 := Blk.cell kf2
  have hz2 := Nat.le_trans hz1 hg2.g.size
  have hG2 := hG1.trans hg2
  clear kb1 kc1 ho1 hg2 hG1 hz1 kf1 kq1
  go_wp2_with fail
  go_at_call 46
  refine (title_b A2 n2 c2 (l ++ nmb (5 : Int).toNat ++ txt us) w00.heap.size ((n + 6) + 30 + 6) ts tn w2 ho2 hz2 hn2 (by omega) bt0 bt1 bt2).mono ?_
  rintro e w3 ⟨A3, n3, c3, rfl, ho3, hg3, hn3⟩
  have kb3 := hg3.heap (OwB.block_ne ho2 kb2 (by decide)) kb2
  have kf3 := hg3.heap (OwB.block_ne ho2 kf2 (by decide)) kf2
  have kc3 := Blk.cell kb3
  have kq3 := Blk.cell kf3
  have hz3 := Nat.le_trans hz2 hg3.g.size
  have hG3 := hG2.trans hg3
  clear kb2 kc2 ho2 hg3 hG2 hz2 kf2 kq2
  have hhl := hst_all bh0
  have HRV := Lib.hid (hst_rv bh0 bh1)
  have hnh : nh = hs.length := h.len
  have HNH := Lib.hid hnh
  have hnh40 : nh ≤ 40 := by omega
  clear hnh hhl
  go_wp2_with fail
  go_at_call 27
  refine (num_b A3 n3 c3 (l ++ nmb (5 : Int).toNat ++ txt us ++ ttl ts tn) w00.heap.size (((n + 6) + 30 + 6) + 120) (nh : Int) w3 ho3 hz3 hn3 (by omega) (by omega) (by omega)).mono ?_
  rintro e w4 ⟨A4, n4, c4, rfl, ho4, hg4, hn4⟩
  have kb4 := hg4.heap (OwB.block_ne ho3 kb3 (by decide)) kb3
  have kf4 := hg4.heap (OwB.block_ne ho3 kf3 (by decide)) kf3
  have kc4 := Blk.cell kb4
  have kq4 := Blk.cell kf4
  have hz4 := Nat.le_trans hz3 hg4.g.size
  have hG4 := hG3.trans hg4
  clear kb3 kc3 ho3 hg4 hG3 hz3 kf3 kq3
  have ho9 : OwB w4 w00.heap.size 5 A4 n4 c4 (l ++ nmb (5 : Int).toNat ++ txt us ++ ttl ts tn ++ nmb (nh : Int).toNat ++ encH (hs.take 0)) := by rw [show encH (hs.take 0) = [] from rfl, List.append_nil]; exact ho4
  have HEN2 : Hid (l ++ encC ⟨5, us, nt, ts, tn, os, on, tx, z, hs⟩ = l ++ nmb (5 : Int).toNat ++ txt us ++ ttl ts tn ++ nmb (nh : Int).toNat ++ encH hs) := Lib.hid (by rw [HEN.out, Int.toNat_natCast, HNH.out])
  clear HEN
  generalize l ++ nmb (5 : Int).toNat ++ txt us ++ ttl ts tn ++ nmb (nh : Int).toNat = LL at ho9 HEN2 ho4 ⊢
  have HO := Lib.hid (fun (h0 : 0 < nh) => RdV.opened h h0)
  obtain ⟨N9, hN9⟩ : ∃ q, q = ((((n + 6) + 30 + 6) + 120) + 6) := ⟨_, rfl⟩
  have hn9 : n4 ≤ N9 := by omega
  have hN9b : N9 ≤ n + 1000 := by omega
  clear hN9 hn4 ho4
  go_wp2_with fail
  go_loopw [0, 65] (fun s v wr => ∃ (k : Nat) (A1 : Option Addr) (n1 c1 : Nat), k ≤ nh ∧ s = .slice A1 n1 c1 ∧ v = .int .i64 k ∧ OwB wr w00.heap.size 5 A1 n1 c1 (LL ++ encH (hs.take k)) ∧ OwG w00.heap.size w wr A A1 ∧ w00.heap.size ≤ wr.heap.size ∧ n1 ≤ N9 + k * 8446 ∧ wr.heap[w.heap.size]? = some (.cells #[.int .i64 5, .string us, .string nt, .int .i64 ts, .string tn, .int .i64 os, .string on, .string tx, .int .i64 z, .slice Ah nh ch] 31 (0, 0))) (fun _ v _ => nh - (intOf v).toNat)
  case atStart => exact ⟨0, A4, n4, c4, Nat.zero_le _, rfl, rfl, ho9, hG4, hz4, by omega, kb4⟩
  case round =>
    obtain ⟨k, Ar, nr, cr, hk, rfl, rfl, hor, hGr, hzr, hnr, kbr⟩ := hrel
    clear ho9 hG4 hz4 kb4 kc4 kf4 kq4 hn9
    have kcr := Blk.cell kbr
    by_cases hlt : k < nh
    · obtain ⟨b, off, rfl, hb, hc⟩ := HO.out (by omega)
      obtain ⟨x0, x1, x2, x3, x4, x5⟩ := hc k hlt
      have kl : k < hs.length := by rw [← HNH.out]; exact hlt
      have hbw : Below w00.heap.size w00 wr := hw.trans hGr.b
      have y0 := (hbw.cell (p := ⟨b, off + k * 6, none⟩) hb).trans x0
      have y1 := (hbw.cell (p := ⟨b, off + k * 6 + 1, none⟩) hb).trans x1
      have y2 := (hbw.cell (p := ⟨b, off + k * 6 + 2, none⟩) hb).trans x2
      have y3 := (hbw.cell (p := ⟨b, off + k * 6 + 3, none⟩) hb).trans x3
      have y4 := (hbw.cell (p := ⟨b, off + k * 6 + 4, none⟩) hb).trans x4
      have y5 := (hbw.cell (p := ⟨b, off + k * 6 + 5, none⟩) hb).trans x5
      have HR : RvOk k (hs.getD k rv0) := HRV.out k _ (by simp [List.getD, List.getElem?_eq_getElem kl])
      have HTK : Hid (encH (hs.take (k + 1)) = encH (hs.take k) ++ encR (hs.getD k rv0)) := Lib.hid (encH_take kl)
      clear x0 x1 x2 x3 x4 x5 hc HO HEN2 hbw
      generalize hs.getD k rv0 = r at *
      obtain ⟨num, us', nt', tx', mi, sq⟩ := r
      obtain ⟨r0, r1, r2, r3, r4, r5, r6⟩ := HR
      simp only [] at y0 y1 y2 y3 y4 y5 r2 r3 r4 r5 r6
      unfold encR at HTK
      have z0 : (0 : Int) ≤ (k : Int) := by omega
      have z1 : (k : Int) < (nh : Int) := by omega
      clear r0 r1
      go_upto_region 20 with fail
      have kr : (wr.alloc (.cells #[.int .i64 num, .string us', .string nt', .string tx', .int .i64 mi, .int .i64 sq] 67)).heap[wr.heap.size]? = some (.cells #[.int .i64 num, .string us', .string nt', .string tx', .int .i64 mi, .int .i64 sq] 67 (0, 0)) := heap_new rfl
      have kb := heap_old (o := .cells #[.int .i64 num, .string us', .string nt', .string tx', .int .i64 mi, .int .i64 sq] 67) kbr
      have ho := OwB.alloc (.cells #[.int .i64 num, .string us', .string nt', .string tx', .int .i64 mi, .int .i64 sq] 67) hor
      have hG := hGr.al hb0 (.cells #[.int .i64 num, .string us', .string nt', .string tx', .int .i64 mi, .int .i64 sq] 67)
      have hz : w00.heap.size ≤ (wr.alloc (.cells #[.int .i64 num, .string us', .string nt', .string tx', .int .i64 mi, .int .i64 sq] 67)).heap.size := by rw [size_alloc_]; omega
      clear kbr kcr hor hGr y0 y1 y2 y3 y4 y5
      generalize wr.alloc (.cells #[.int .i64 num, .string us', .string nt', .string tx', .int .i64 mi, .int .i64 sq] 67) = wb at *
      generalize wr.heap.size = gr at *
      have kc := Blk.cell kr
      have hne := OwB.block_ne ho kr (by decide)
      go_region_held3 (fun W => W.cell? ⟨gr, 1, none⟩ = some (.string us') ∧ W.cell? ⟨gr, 2, none⟩ = some (.string nt') ∧ W.cell? ⟨gr, 3, none⟩ = some (.string tx') ∧ W.cell? ⟨gr, 4, none⟩ = some (.int .i64 mi)) (first | (simp [kc]; done) | assumption)
        (first
          | (go_at_call 45; ((with_reducible refine (text_b Ar nr cr (LL ++ encH (hs.take k)) w00.heap.size (N9 + k * 8446) 30 us' _ ho.drew ?_ ?_ ?_ ?_ ?_).mono ?_); (focus exact hz); (focus omega); (focus omega); (focus omega); (focus omega); rintro e v1 ⟨B1, m1, d1, rfl, p1, q1, u1⟩; (replace q1 := q1.drew_left); (have kr1 := q1.heap (OwB.block_ne ho kr (by decide)) kr); (have kb1 := q1.heap (OwB.block_ne ho kb (by decide)) kb); (have hS1 : v1.cell? ⟨gr, 1, none⟩ = some (.string us') ∧ v1.cell? ⟨gr, 2, none⟩ = some (.string nt') ∧ v1.cell? ⟨gr, 3, none⟩ = some (.string tx') ∧ v1.cell? ⟨gr, 4, none⟩ = some (.int .i64 mi) := ⟨Blk.cell kr1 1, Blk.cell kr1 2, Blk.cell kr1 3, Blk.cell kr1 4⟩)))
          | (go_at_call 45; ((with_reducible refine (text_b B1 m1 d1 (LL ++ encH (hs.take k) ++ txt us') w00.heap.size ((N9 + k * 8446) + 30 + 6) 200 nt' _ p1 ?_ ?_ ?_ ?_ ?_).mono ?_); (focus (exact Nat.le_trans hz q1.g.size)); (focus omega); (focus omega); (focus omega); (focus omega); rintro e v2 ⟨B2, m2, d2, rfl, p2, q2, u2⟩; (have kr2 := q2.heap (OwB.block_ne p1 kr1 (by decide)) kr1); (have kb2 := q2.heap (OwB.block_ne p1 kb1 (by decide)) kb1); (have hS2 : v2.cell? ⟨gr, 1, none⟩ = some (.string us') ∧ v2.cell? ⟨gr, 2, none⟩ = some (.string nt') ∧ v2.cell? ⟨gr, 3, none⟩ = some (.string tx') ∧ v2.cell? ⟨gr, 4, none⟩ = some (.int .i64 mi) := ⟨Blk.cell kr2 1, Blk.cell kr2 2, Blk.cell kr2 3, Blk.cell kr2 4⟩)))
          | (go_at_call 45; ((with_reducible refine (text_b B2 m2 d2 (LL ++ encH (hs.take k) ++ txt us' ++ txt nt') w00.heap.size ((N9 + k * 8446) + 30 + 6 + 200 + 6) 8192 tx' _ p2 ?_ ?_ ?_ ?_ ?_).mono ?_); (focus (exact Nat.le_trans hz (Nat.le_trans q1.g.size q2.g.size))); (focus omega); (focus omega); (focus omega); (focus omega); rintro e v3 ⟨B3, m3, d3, rfl, p3, q3, u3⟩; (have kr3 := q3.heap (OwB.block_ne p2 kr2 (by decide)) kr2); (have kb3 := q3.heap (OwB.block_ne p2 kb2 (by decide)) kb2); (have hS3 : v3.cell? ⟨gr, 1, none⟩ = some (.string us') ∧ v3.cell? ⟨gr, 2, none⟩ = some (.string nt') ∧ v3.cell? ⟨gr, 3, none⟩ = some (.string tx') ∧ v3.cell? ⟨gr, 4, none⟩ = some (.int .i64 mi) := ⟨Blk.cell kr3 1, Blk.cell kr3 2, Blk.cell kr3 3, Blk.cell kr3 4⟩)))
          | (go_at_call 27; ((with_reducible refine (num_b B3 m3 d3 (LL ++ encH (hs.take k) ++ txt us' ++ txt nt' ++ txt tx') w00.heap.size ((N9 + k * 8446) + 30 + 6 + 200 + 6 + 8192 + 6) mi _ p3 ?_ ?_ ?_ ?_ ?_).mono ?_); (focus (exact Nat.le_trans hz (Nat.le_trans q1.g.size (Nat.le_trans q2.g.size q3.g.size)))); (focus omega); (focus omega); (focus omega); (focus omega); rintro e v4 ⟨B4, m4, d4, rfl, p4, q4, u4⟩; (have kr4 := q4.heap (OwB.block_ne p3 kr3 (by decide)) kr3); (have kb4 := q4.heap (OwB.block_ne p3 kb3 (by decide)) kb3); (have hS4 : v4.cell? ⟨gr, 1, none⟩ = some (.string us') ∧ v4.cell? ⟨gr, 2, none⟩ = some (.string nt') ∧ v4.cell? ⟨gr, 3, none⟩ = some (.string tx') ∧ v4.cell? ⟨gr, 4, none⟩ = some (.int .i64 mi) := ⟨Blk.cell kr4 1, Blk.cell kr4 2, Blk.cell kr4 3, Blk.cell kr4 4⟩)))
        )
      all_goals
        have HL2 : Hid (LL ++ encH (hs.take k) ++ txt us' ++ txt nt' ++ txt tx' ++ nmb mi.toNat = LL ++ encH (hs.take (k + 1))) := Lib.hid (by rw [HTK.out]; simp only [List.append_assoc])
        rw [HL2.out] at p4
        go_wp2_with fail
        go_roundw
        case rel => exact ⟨k + 1, B4, m4, d4, by omega, rfl, by go_num, p4, hG.trans (((q1.trans q2).trans q3).trans q4), Nat.le_trans hz (Nat.le_trans q1.g.size (Nat.le_trans q2.g.size (Nat.le_trans q3.g.size q4.g.size))), by omega, kb4⟩
        case measure => simp [intOf]; omega
    · obtain rfl : k = nh := by omega
      have HTA : Hid (LL ++ encH (hs.take k) = l ++ encC ⟨5, us, nt, ts, tn, os, on, tx, z, hs⟩) := Lib.hid (by rw [HEN2.out, HNH.out, List.take_length])
      rw [HTA.out] at hor
      go_wp2_with fail
      go_ret
      exact ⟨Ar, nr, cr, rfl, hor, hGr, by omega⟩
end Go.Proofs.YtbeijpajodgpeaaDoor
/- The walk of change.put, whole. Printed by gen_c13.py -/
namespace Go.Proofs.YtbeijpajodgpeaaDoor
open Go.RowKit
set_option linter.unusedSimpArgs false
set_option linter.unusedVariables false

theorem put_any (w00 : World) (A : Option Addr) (n c : Nat) (l : List UInt8) (cg : Cg) (Ah : Option Addr) (nh ch : Nat) (w : World) (ho : OwB w w00.heap.size 5 A n c l) (hw : Below w00.heap.size w00 w) (h : RdR RV 6 w00 Ah nh ch cg.hs) (hv : cv cg = 0) (hn : n ≤ 16777216) :
    Calls Tryd.prog 28 #[.slice A n c, cval cg Ah nh ch] w (RPB w00.heap.size w A (l ++ encC cg) (n + 400000)) := by
  rcases kinds (cv_kind hv) with e | e | e | e | e | e | e | e | e | e
  · exact put_1 w00 A n c l cg Ah nh ch w ho hw h hv hn e
  · exact put_2 w00 A n c l cg Ah nh ch w ho hw h hv hn (by omega)
  · exact put_2 w00 A n c l cg Ah nh ch w ho hw h hv hn (by omega)
  · exact put_4 w00 A n c l cg Ah nh ch w ho hw h hv hn e
  · exact put_5 w00 A n c l cg Ah nh ch w ho hw h hv hn e
  · exact put_6 w00 A n c l cg Ah nh ch w ho hw h hv hn e
  · exact put_2 w00 A n c l cg Ah nh ch w ho hw h hv hn (by omega)
  · exact put_2 w00 A n c l cg Ah nh ch w ho hw h hv hn (by omega)
  · exact put_9 w00 A n c l cg Ah nh ch w ho hw h hv hn e
  · exact put_10 w00 A n c l cg Ah nh ch w ho hw h hv hn e
end Go.Proofs.YtbeijpajodgpeaaDoor
