/- The walk of ChangeValid. Printed by gen_g15.py -/
import Derived.Test.YtbeijpajodgpeaaDoorG9
import Derived.Test.YtbeijpajodgpeaaDoorG7
import Derived.Test.YtbeijpajodgpeaaDoorG12
import Derived.Test.YtbeijpajodgpeaaDoorG11
import Derived.Test.YtbeijpajodgpeaaDoorC8
namespace Go.Proofs.YtbeijpajodgpeaaDoor
open Go.RowKit
set_option linter.unusedSimpArgs false
set_option linter.unusedVariables false

set_option maxRecDepth 100000 in
set_option maxHeartbeats 16000000 in
theorem chvalid_walk (ca : Cg) (Aa : Option Addr) (na cpa : Nat) (A : Option Addr) (n c : Nat) (zs : List Int) (clock how x xm : Int) (w : World) (hra : RdR RV 6 w Aa na cpa ca.hs) (hwa : CgWf ca) (hr : RdN w A n c zs) (hx : Hm xm w) :
    Calls Tryd.prog 5 #[cval ca Aa na cpa, .slice A n c, .int .i64 clock, .int .i64 how, .int .i64 x] w fun e w' => e = .returned (.bool true) ∧ Below w.heap.size w w' := by
  have HA := Lib.hid fun (W : World) (hW : Below w.heap.size w W) => awake_any xm W (hx.below hW)
  have HX := Lib.hid fun (W : World) (hW : Below w.heap.size w W) => hx.below hW
  have HV1 : Hid (∀ W, Below w.heap.size w W → Calls Tryd.prog 18 #[cval ca Aa na cpa] W fun e w' => e = .returned (.int .i64 (cv ca)) ∧ Below W.heap.size W w') := Lib.hid fun W hW => valid_any ca Aa na cpa xm W (RdV.below hra hW) hwa.hs (hx.below hW)
  have HV2 : Hid (∀ W, Below w.heap.size w W → Calls Tryd.prog 21 #[cval ca Aa na cpa] W fun e w' => e = .returned (.int .i64 (cv ca)) ∧ Below W.heap.size W w') := Lib.hid fun W hW => rvalid_any ca Aa na cpa W (RdV.below hra hW) hwa.hs
  have HR := Lib.hid (fun W => round_any clock 9 W (by omega) (by omega))
  have HCK := Lib.hid (ck_ok clock)
  have HRN := Lib.hid hr
  have hub : ∀ b : Bool, (some undef = some (Value.bool b)) = False := fun b => by simp [undef]
  have hub2 : ∀ b : Bool, (undef = Value.bool b) = False := fun b => by simp [undef]
  have hl1 : Below w.heap.size w (w.alloc (.cells #[.int .i64 ca.kd, .string ca.us, .string ca.nt, .int .i64 ca.ts, .string ca.tn, .int .i64 ca.os, .string ca.on, .string ca.tx, .int .i64 ca.n, .slice Aa na cpa] 31)) := (Below.refl _ _).alloc (Nat.le_refl _) _
  have hk1 : (w.alloc (.cells #[.int .i64 ca.kd, .string ca.us, .string ca.nt, .int .i64 ca.ts, .string ca.tn, .int .i64 ca.os, .string ca.on, .string ca.tx, .int .i64 ca.n, .slice Aa na cpa] 31)).heap[w.heap.size]? = some (.cells #[.int .i64 ca.kd, .string ca.us, .string ca.nt, .int .i64 ca.ts, .string ca.tn, .int .i64 ca.os, .string ca.on, .string ca.tx, .int .i64 ca.n, .slice Aa na cpa] 31 (0, 0)) := heap_new rfl
  have hr1 := RdV.below hra hl1
  unfold cval at HV1 HV2 ⊢
  generalize cv ca = V at *
  clear hr hx hra hwa
  go_enter Tryd.func5, Tryd.ntmps5
  go_upto_region 1 with fail
  generalize w.alloc (.cells #[.int .i64 ca.kd, .string ca.us, .string ca.nt, .int .i64 ca.ts, .string ca.tn, .int .i64 ca.os, .string ca.on, .string ca.tx, .int .i64 ca.n, .slice Aa na cpa] 31) = w1 at *
  have hkc := Blk.cell hk1
  have hb2 : Below w1.heap.size w1 (w1.alloc (.cells #[.int .i64 ca.kd, .string ca.us, .string ca.nt, .int .i64 ca.ts, .string ca.tn, .int .i64 ca.os, .string ca.on, .string ca.tx, .int .i64 ca.n, .slice Aa na cpa] 31)) := (Below.refl _ _).alloc (Nat.le_refl _) _
  have HFW := Lib.hid (few_any _ 1 1 [ca] _ ⟨rfl, Nat.le_refl _, by unfold maxLen; omega, _, Reads.litAt (w := w1) (t := 31) (cs := #[.int .i64 ca.kd, .string ca.us, .string ca.nt, .int .i64 ca.ts, .string ca.tn, .int .i64 ca.os, .string ca.on, .string ca.tx, .int .i64 ca.n, .slice Aa na cpa]) rfl rfl, Fits.one (a := ca) rfl ⟨Aa, na, cpa, rfl, RdV.below hr1 hb2⟩⟩)
  have hb02 := below_call hl1 hb2
  have hk2 := heap_call hb2 hk1
  go_wp2_with fail
  go_at_call 19
  refine HFW.out.mono ?_
  rintro e w3 ⟨⟨b, rfl⟩, hb3⟩
  have hb03 := below_call hb02 hb3
  have hk3 := heap_call hb3 hk2
  have HF := Lib.hid (from_sg A n c zs w3 w3 ⟨HRN.out.len, HRN.out.cap, HRN.out.max, (HRN.out.reads.below hb03).more hb03.size⟩ (Below.refl _ _))
  have hq3 := Blk.lt hk3
  clear hk1 hk2 hkc hr1 hb02 hb2 hb3 hl1 HFW
  cases b with
  | false =>
    clear hk3
    go_wp2_with fail
    go_at_call 14
    refine (HA.out _ hb03).mono ?_
    rintro e w1 ⟨rfl, hb1⟩
    have hb01 := below_call hb03 hb1
    go_wp2_with fail
    go_ret
    exact ⟨rfl, hb01⟩
  | true =>
    go_wp2_with fail
    go_at_call 11
    refine HF.out.mono ?_
    rintro e w4 ⟨g, rfl, hS4, hb4⟩
    have hk4 := heap_call hb4 hk3
    have hgq : w.heap.size ≠ g := by
      have := hS4.g0
      omega
    go_wp2_with fail
    go_at_call 17
    refine (HR.out _).mono ?_
    rintro e wn ⟨rfl, hwn⟩
    obtain rfl := hwn.symm
    clear hwn HR HF
    go_wp2_with fail
    go_at_call 20
    refine (change_mk w3 g A n c zs _ w4 hS4 HCK.out).mono ?_
    rintro e w5 ⟨cg, A5, n5, c5, rfl, hmc, hor, hS5, hg5⟩
    have hb35 := hS5.b
    have hb05 := below_call hb03 hb35
    have hk5 := heap_grown hg5 hgq hk4
    unfold cval
    go_upto_region 4 with fail
    have hb6 : Below w5.heap.size w5 (w5.alloc (.cells #[.int .i64 cg.kd, .string cg.us, .string cg.nt, .int .i64 cg.ts, .string cg.tn, .int .i64 cg.os, .string cg.on, .string cg.tx, .int .i64 cg.n, .slice A5 n5 c5] 31)) := (Below.refl _ _).alloc (Nat.le_refl _) _
    have hk6 := heap_call hb6 hk5
    have hr6 : (w5.alloc (.cells #[.int .i64 cg.kd, .string cg.us, .string cg.nt, .int .i64 cg.ts, .string cg.tn, .int .i64 cg.os, .string cg.on, .string cg.tx, .int .i64 cg.n, .slice A5 n5 c5] 31)).heap[w5.heap.size]? = some (.cells #[.int .i64 cg.kd, .string cg.us, .string cg.nt, .int .i64 cg.ts, .string cg.tn, .int .i64 cg.os, .string cg.on, .string cg.tx, .int .i64 cg.n, .slice A5 n5 c5] 31 (0, 0)) := heap_new rfl
    have hb06 := below_call hb05 hb6
    have hrd := RdV.below hor.rd hb6
    have hty := (OwV.ty hor).below hb6
    clear hS4 hb4 hk3 hk4 hk5 hgq hS5 hg5 hb35 hb05 hor hb6 HCK HRN hq3 hb03
    generalize w5.alloc (.cells #[.int .i64 cg.kd, .string cg.us, .string cg.nt, .int .i64 cg.ts, .string cg.tn, .int .i64 cg.os, .string cg.on, .string cg.tx, .int .i64 cg.n, .slice A5 n5 c5] 31) = y at *
    generalize w5.heap.size = bx at *
    have hbq := Blk.lt hk6
    have hbr := Blk.lt hr6
    have HV3 : Hid (∀ W, Below y.heap.size y W → Calls Tryd.prog 18 #[.agg #[.int .i64 cg.kd, .string cg.us, .string cg.nt, .int .i64 cg.ts, .string cg.tn, .int .i64 cg.os, .string cg.on, .string cg.tx, .int .i64 cg.n, .slice A5 n5 c5]] W fun e w' => e = .returned (.int .i64 0) ∧ Below W.heap.size W w') := Lib.hid fun W hW => by
      have := valid_any cg A5 n5 c5 xm W (RdV.below hrd hW) (cgwf_of_cv hmc.ok).hs (HX.out _ (below_call hb06 hW))
      rw [hmc.ok] at this
      exact this
    have HAL := Lib.hid (fun W (hW : Below y.heap.size y W) => altered_any cg A5 n5 c5 how x W (RdV.below hrd hW) (hty.below hW) (cgwf_of_cv hmc.ok) (by have := hmc.tx; omega) (by have := hmc.hl; have := hrd.len; omega))
    unfold cval at HAL
    have hKK : Hid (∀ W, Below y.heap.size y W → W.cell? ⟨w.heap.size, 0, none⟩ = some (.int .i64 ca.kd) ∧ W.cell? ⟨w.heap.size, 1, none⟩ = some (.string ca.us) ∧ W.cell? ⟨w.heap.size, 2, none⟩ = some (.string ca.nt) ∧ W.cell? ⟨w.heap.size, 3, none⟩ = some (.int .i64 ca.ts) ∧ W.cell? ⟨w.heap.size, 4, none⟩ = some (.string ca.tn) ∧ W.cell? ⟨w.heap.size, 5, none⟩ = some (.int .i64 ca.os) ∧ W.cell? ⟨w.heap.size, 6, none⟩ = some (.string ca.on) ∧ W.cell? ⟨w.heap.size, 7, none⟩ = some (.string ca.tx) ∧ W.cell? ⟨w.heap.size, 8, none⟩ = some (.int .i64 ca.n) ∧ W.cell? ⟨w.heap.size, 9, none⟩ = some (.slice Aa na cpa) ∧ W.cell? ⟨bx, 0, none⟩ = some (.int .i64 cg.kd) ∧ W.cell? ⟨bx, 1, none⟩ = some (.string cg.us) ∧ W.cell? ⟨bx, 2, none⟩ = some (.string cg.nt) ∧ W.cell? ⟨bx, 3, none⟩ = some (.int .i64 cg.ts) ∧ W.cell? ⟨bx, 4, none⟩ = some (.string cg.tn) ∧ W.cell? ⟨bx, 5, none⟩ = some (.int .i64 cg.os) ∧ W.cell? ⟨bx, 6, none⟩ = some (.string cg.on) ∧ W.cell? ⟨bx, 7, none⟩ = some (.string cg.tx) ∧ W.cell? ⟨bx, 8, none⟩ = some (.int .i64 cg.n) ∧ W.cell? ⟨bx, 9, none⟩ = some (.slice A5 n5 c5)) := Lib.hid fun W hW => ⟨(hW.cell (p := ⟨w.heap.size, 0, none⟩) hbq).trans (Blk.cell hk6 0), (hW.cell (p := ⟨w.heap.size, 1, none⟩) hbq).trans (Blk.cell hk6 1), (hW.cell (p := ⟨w.heap.size, 2, none⟩) hbq).trans (Blk.cell hk6 2), (hW.cell (p := ⟨w.heap.size, 3, none⟩) hbq).trans (Blk.cell hk6 3), (hW.cell (p := ⟨w.heap.size, 4, none⟩) hbq).trans (Blk.cell hk6 4), (hW.cell (p := ⟨w.heap.size, 5, none⟩) hbq).trans (Blk.cell hk6 5), (hW.cell (p := ⟨w.heap.size, 6, none⟩) hbq).trans (Blk.cell hk6 6), (hW.cell (p := ⟨w.heap.size, 7, none⟩) hbq).trans (Blk.cell hk6 7), (hW.cell (p := ⟨w.heap.size, 8, none⟩) hbq).trans (Blk.cell hk6 8), (hW.cell (p := ⟨w.heap.size, 9, none⟩) hbq).trans (Blk.cell hk6 9), (hW.cell (p := ⟨bx, 0, none⟩) hbr).trans (Blk.cell hr6 0), (hW.cell (p := ⟨bx, 1, none⟩) hbr).trans (Blk.cell hr6 1), (hW.cell (p := ⟨bx, 2, none⟩) hbr).trans (Blk.cell hr6 2), (hW.cell (p := ⟨bx, 3, none⟩) hbr).trans (Blk.cell hr6 3), (hW.cell (p := ⟨bx, 4, none⟩) hbr).trans (Blk.cell hr6 4), (hW.cell (p := ⟨bx, 5, none⟩) hbr).trans (Blk.cell hr6 5), (hW.cell (p := ⟨bx, 6, none⟩) hbr).trans (Blk.cell hr6 6), (hW.cell (p := ⟨bx, 7, none⟩) hbr).trans (Blk.cell hr6 7), (hW.cell (p := ⟨bx, 8, none⟩) hbr).trans (Blk.cell hr6 8), (hW.cell (p := ⟨bx, 9, none⟩) hbr).trans (Blk.cell hr6 9)⟩
    generalize alC cg (how % 9) x = C at *
    clear hk6 hr6 hrd hty hmc hbq hbr
    refine wp_region_held_drew (S := fun W => W.cell? ⟨w.heap.size, 0, none⟩ = some (.int .i64 ca.kd) ∧ W.cell? ⟨w.heap.size, 1, none⟩ = some (.string ca.us) ∧ W.cell? ⟨w.heap.size, 2, none⟩ = some (.string ca.nt) ∧ W.cell? ⟨w.heap.size, 3, none⟩ = some (.int .i64 ca.ts) ∧ W.cell? ⟨w.heap.size, 4, none⟩ = some (.string ca.tn) ∧ W.cell? ⟨w.heap.size, 5, none⟩ = some (.int .i64 ca.os) ∧ W.cell? ⟨w.heap.size, 6, none⟩ = some (.string ca.on) ∧ W.cell? ⟨w.heap.size, 7, none⟩ = some (.string ca.tx) ∧ W.cell? ⟨w.heap.size, 8, none⟩ = some (.int .i64 ca.n) ∧ W.cell? ⟨w.heap.size, 9, none⟩ = some (.slice Aa na cpa) ∧ W.cell? ⟨bx, 0, none⟩ = some (.int .i64 cg.kd) ∧ W.cell? ⟨bx, 1, none⟩ = some (.string cg.us) ∧ W.cell? ⟨bx, 2, none⟩ = some (.string cg.nt) ∧ W.cell? ⟨bx, 3, none⟩ = some (.int .i64 cg.ts) ∧ W.cell? ⟨bx, 4, none⟩ = some (.string cg.tn) ∧ W.cell? ⟨bx, 5, none⟩ = some (.int .i64 cg.os) ∧ W.cell? ⟨bx, 6, none⟩ = some (.string cg.on) ∧ W.cell? ⟨bx, 7, none⟩ = some (.string cg.tx) ∧ W.cell? ⟨bx, 8, none⟩ = some (.int .i64 cg.n) ∧ W.cell? ⟨bx, 9, none⟩ = some (.slice A5 n5 c5)) (by kernel_rfl) ?_ (fun hHeld0 => ?_)
    · try dsimp only
      first | exact hKK.out _ (below_drw (Below.refl _ _)) | exact hKK.out _ hB1 | exact hKK.out _ hB2 | exact hKK.out _ hB3 | exact hKK.out _ hB4 | exact hKK.out _ hB5 | exact hKK.out _ hB6 | exact hKK.out _ hB7 | exact hKK.out _ hB8
    refine wpAnyH_ready (rs := [0]) (by kernel_rfl) (by simp) ?_
    refine AllReadyH.cons (o := { dst := some 22, op := Go.Op.call { callee := Go.Callee.value (Go.Operand.func 14), args := #[], argTypes := #[] }, type := 4, pos := "law.go:54", after := #[], guard := none }) rfl (fun K hK => ?_) ?_
    · go_simp
      (go_at_call 14; refine (HA.out _ (below_drw hb06)).mono ?_; rintro e y1 ⟨rfl, hb1⟩; have hB1 : Below y.heap.size y y1 := below_call (below_drw (Below.refl _ _)) hb1)
      try go_wp2_with fail
      refine hK.out _ _ ?_ (fun hHeld1 => ?_)
      · try dsimp only
        first | exact hKK.out _ (below_drw (Below.refl _ _)) | exact hKK.out _ hB1 | exact hKK.out _ hB2 | exact hKK.out _ hB3 | exact hKK.out _ hB4 | exact hKK.out _ hB5 | exact hKK.out _ hB6 | exact hKK.out _ hB7 | exact hKK.out _ hB8
      clear hK K hHeld0
      try simp only [Act.put, List.setIfInBounds_toArray, List.set_cons_zero, List.set_cons_succ]
      refine wpAnyH_take (i := 1) (oi := { dst := some 23, op := Go.Op.move (Go.Operand.tmp 22), type := 4, pos := "law.go:54", after := #[{ on := 0, ground := Go.Ground.data }, { on := 0, ground := Go.Ground.chain }], guard := none }) (v := .bool true) rfl (by kernel_rfl) (by kernel_rfl) (by kernel_rfl) (fun _ _ _ h => h) (Or.inl ⟨by rfl, ?_⟩) (by assumption) ?_
      · (intro W hSw; (try dsimp only at hSw); go_simp; try with_reducible rfl)
      try simp only [Act.put, List.setIfInBounds_toArray, List.set_cons_zero, List.set_cons_succ]
      refine wpAnyH_take (i := 2) (oi := { dst := some 24, op := Go.Op.load 31 (Go.Operand.tmp 5), type := 31, pos := "law.go:54", after := #[{ on := 1, ground := Go.Ground.guard }], guard := some (1, true) }) (v := .agg #[.int .i64 ca.kd, .string ca.us, .string ca.nt, .int .i64 ca.ts, .string ca.tn, .int .i64 ca.os, .string ca.on, .string ca.tx, .int .i64 ca.n, .slice Aa na cpa]) rfl (by kernel_rfl) (by kernel_rfl) (by kernel_rfl) (fun _ _ _ h => h) (Or.inl ⟨by rfl, ?_⟩) (by assumption) ?_
      · (intro W hSw; (try dsimp only at hSw); go_simp; try with_reducible rfl)
      try simp only [Act.put, List.setIfInBounds_toArray, List.set_cons_zero, List.set_cons_succ]
      refine wpAnyH_take (i := 4) (oi := { dst := some 26, op := Go.Op.load 31 (Go.Operand.tmp 5), type := 31, pos := "law.go:54", after := #[{ on := 1, ground := Go.Ground.guard }], guard := some (1, true) }) (v := .agg #[.int .i64 ca.kd, .string ca.us, .string ca.nt, .int .i64 ca.ts, .string ca.tn, .int .i64 ca.os, .string ca.on, .string ca.tx, .int .i64 ca.n, .slice Aa na cpa]) rfl (by kernel_rfl) (by kernel_rfl) (by kernel_rfl) (fun _ _ _ h => h) (Or.inl ⟨by rfl, ?_⟩) (by assumption) ?_
      · (intro W hSw; (try dsimp only at hSw); go_simp; try with_reducible rfl)
      try simp only [Act.put, List.setIfInBounds_toArray, List.set_cons_zero, List.set_cons_succ]
      refine wpAnyH_ready (rs := [3]) (by kernel_rfl) (by simp) ?_
      refine AllReadyH.cons (o := { dst := some 25, op := Go.Op.call { callee := Go.Callee.value (Go.Operand.func 18), args := #[Go.Operand.tmp 24], argTypes := #[31] }, type := 34, pos := "law.go:54", after := #[{ on := 2, ground := Go.Ground.data }, { on := 1, ground := Go.Ground.chain }, { on := 1, ground := Go.Ground.guard }], guard := some (1, true) }) rfl (fun K hK => ?_) ?_
      · go_simp
        (go_at_call 18; refine (HV1.out _ (below_call hb06 hB1)).mono ?_; rintro e y2 ⟨rfl, hb2⟩; have hB2 := below_call hB1 hb2; clear hb1)
        try go_wp2_with fail
        refine hK.out _ _ ?_ (fun hHeld2 => ?_)
        · try dsimp only
          first | exact hKK.out _ (below_drw (Below.refl _ _)) | exact hKK.out _ hB1 | exact hKK.out _ hB2 | exact hKK.out _ hB3 | exact hKK.out _ hB4 | exact hKK.out _ hB5 | exact hKK.out _ hB6 | exact hKK.out _ hB7 | exact hKK.out _ hB8
        clear hK K hHeld1
        try simp only [Act.put, List.setIfInBounds_toArray, List.set_cons_zero, List.set_cons_succ]
        refine wpAnyH_ready (rs := [5]) (by kernel_rfl) (by simp) ?_
        refine AllReadyH.cons (o := { dst := some 27, op := Go.Op.call { callee := Go.Callee.value (Go.Operand.func 21), args := #[Go.Operand.tmp 26], argTypes := #[31] }, type := 34, pos := "law.go:54", after := #[{ on := 4, ground := Go.Ground.data }, { on := 3, ground := Go.Ground.chain }, { on := 1, ground := Go.Ground.guard }], guard := some (1, true) }) rfl (fun K hK => ?_) ?_
        · go_simp
          (go_at_call 21; refine (HV2.out _ (below_call hb06 hB2)).mono ?_; rintro e y3 ⟨rfl, hb3⟩; have hB3 := below_call hB2 hb3; clear hb2)
          try go_wp2_with fail
          refine hK.out _ _ ?_ (fun hHeld3 => ?_)
          · try dsimp only
            first | exact hKK.out _ (below_drw (Below.refl _ _)) | exact hKK.out _ hB1 | exact hKK.out _ hB2 | exact hKK.out _ hB3 | exact hKK.out _ hB4 | exact hKK.out _ hB5 | exact hKK.out _ hB6 | exact hKK.out _ hB7 | exact hKK.out _ hB8
          clear hK K hHeld2
          try simp only [Act.put, List.setIfInBounds_toArray, List.set_cons_zero, List.set_cons_succ]
          refine wpAnyH_take (i := 6) (oi := { dst := some 28, op := Go.Op.binOp Go.BinOp.eql 34 (Go.Operand.tmp 25) (Go.Operand.tmp 27) 34, type := 4, pos := "law.go:54", after := #[{ on := 3, ground := Go.Ground.data }, { on := 5, ground := Go.Ground.data }, { on := 1, ground := Go.Ground.guard }], guard := some (1, true) }) (v := .bool true) rfl (by kernel_rfl) (by kernel_rfl) (by kernel_rfl) (fun _ _ _ h => h) (Or.inl ⟨by rfl, ?_⟩) (by assumption) ?_
          · (intro W hSw; (try dsimp only at hSw); go_simp; try with_reducible rfl)
          try simp only [Act.put, List.setIfInBounds_toArray, List.set_cons_zero, List.set_cons_succ]
          refine wpAnyH_take (i := 7) (oi := { dst := some 29, op := Go.Op.pick (Go.Operand.tmp 23) (Go.Operand.tmp 28) (Go.Operand.const (Go.Value.bool false)), type := 4, pos := "law.go:54", after := #[{ on := 1, ground := Go.Ground.data }, { on := 6, ground := Go.Ground.data }], guard := none }) (v := .bool true) rfl (by kernel_rfl) (by kernel_rfl) (by kernel_rfl) (fun _ _ _ h => h) (Or.inl ⟨by rfl, ?_⟩) (by assumption) ?_
          · (intro W hSw; (try dsimp only at hSw); go_simp; try with_reducible rfl)
          try simp only [Act.put, List.setIfInBounds_toArray, List.set_cons_zero, List.set_cons_succ]
          refine wpAnyH_take (i := 8) (oi := { dst := some 30, op := Go.Op.move (Go.Operand.tmp 29), type := 4, pos := "law.go:54", after := #[{ on := 7, ground := Go.Ground.data }, { on := 5, ground := Go.Ground.chain }], guard := none }) (v := .bool true) rfl (by kernel_rfl) (by kernel_rfl) (by kernel_rfl) (fun _ _ _ h => h) (Or.inl ⟨by rfl, ?_⟩) (by assumption) ?_
          · (intro W hSw; (try dsimp only at hSw); go_simp; try with_reducible rfl)
          try simp only [Act.put, List.setIfInBounds_toArray, List.set_cons_zero, List.set_cons_succ]
          refine wpAnyH_take (i := 9) (oi := { dst := some 31, op := Go.Op.load 31 (Go.Operand.tmp 11), type := 31, pos := "law.go:54", after := #[{ on := 8, ground := Go.Ground.guard }], guard := some (8, true) }) (v := .agg #[.int .i64 cg.kd, .string cg.us, .string cg.nt, .int .i64 cg.ts, .string cg.tn, .int .i64 cg.os, .string cg.on, .string cg.tx, .int .i64 cg.n, .slice A5 n5 c5]) rfl (by kernel_rfl) (by kernel_rfl) (by kernel_rfl) (fun _ _ _ h => h) (Or.inl ⟨by rfl, ?_⟩) (by assumption) ?_
          · (intro W hSw; (try dsimp only at hSw); go_simp; try with_reducible rfl)
          try simp only [Act.put, List.setIfInBounds_toArray, List.set_cons_zero, List.set_cons_succ]
          refine wpAnyH_ready (rs := [10]) (by kernel_rfl) (by simp) ?_
          refine AllReadyH.cons (o := { dst := some 32, op := Go.Op.call { callee := Go.Callee.value (Go.Operand.func 18), args := #[Go.Operand.tmp 31], argTypes := #[31] }, type := 34, pos := "law.go:54", after := #[{ on := 9, ground := Go.Ground.data }, { on := 8, ground := Go.Ground.chain }, { on := 8, ground := Go.Ground.guard }], guard := some (8, true) }) rfl (fun K hK => ?_) ?_
          · go_simp
            (go_at_call 18; refine (HV3.out _ hB3).mono ?_; rintro e y4 ⟨rfl, hb4⟩; have hB4 := below_call hB3 hb4; clear hb3)
            try go_wp2_with fail
            refine hK.out _ _ ?_ (fun hHeld4 => ?_)
            · try dsimp only
              first | exact hKK.out _ (below_drw (Below.refl _ _)) | exact hKK.out _ hB1 | exact hKK.out _ hB2 | exact hKK.out _ hB3 | exact hKK.out _ hB4 | exact hKK.out _ hB5 | exact hKK.out _ hB6 | exact hKK.out _ hB7 | exact hKK.out _ hB8
            clear hK K hHeld3
            try simp only [Act.put, List.setIfInBounds_toArray, List.set_cons_zero, List.set_cons_succ]
            refine wpAnyH_take (i := 11) (oi := { dst := some 33, op := Go.Op.binOp Go.BinOp.eql 34 (Go.Operand.tmp 32) (Go.Operand.const (Go.Value.int Go.IntKind.i64 0)) 34, type := 4, pos := "law.go:54", after := #[{ on := 10, ground := Go.Ground.data }, { on := 8, ground := Go.Ground.guard }], guard := some (8, true) }) (v := .bool true) rfl (by kernel_rfl) (by kernel_rfl) (by kernel_rfl) (fun _ _ _ h => h) (Or.inl ⟨by rfl, ?_⟩) (by assumption) ?_
            · (intro W hSw; (try dsimp only at hSw); go_simp; try with_reducible rfl)
            try simp only [Act.put, List.setIfInBounds_toArray, List.set_cons_zero, List.set_cons_succ]
            refine wpAnyH_take (i := 12) (oi := { dst := some 34, op := Go.Op.pick (Go.Operand.tmp 30) (Go.Operand.tmp 33) (Go.Operand.const (Go.Value.bool false)), type := 4, pos := "law.go:54", after := #[{ on := 8, ground := Go.Ground.data }, { on := 11, ground := Go.Ground.data }], guard := none }) (v := .bool true) rfl (by kernel_rfl) (by kernel_rfl) (by kernel_rfl) (fun _ _ _ h => h) (Or.inl ⟨by rfl, ?_⟩) (by assumption) ?_
            · (intro W hSw; (try dsimp only at hSw); go_simp; try with_reducible rfl)
            try simp only [Act.put, List.setIfInBounds_toArray, List.set_cons_zero, List.set_cons_succ]
            refine wpAnyH_take (i := 13) (oi := { dst := some 35, op := Go.Op.move (Go.Operand.tmp 34), type := 4, pos := "law.go:54", after := #[{ on := 12, ground := Go.Ground.data }, { on := 10, ground := Go.Ground.chain }], guard := none }) (v := .bool true) rfl (by kernel_rfl) (by kernel_rfl) (by kernel_rfl) (fun _ _ _ h => h) (Or.inl ⟨by rfl, ?_⟩) (by assumption) ?_
            · (intro W hSw; (try dsimp only at hSw); go_simp; try with_reducible rfl)
            try simp only [Act.put, List.setIfInBounds_toArray, List.set_cons_zero, List.set_cons_succ]
            refine wpAnyH_take (i := 14) (oi := { dst := some 36, op := Go.Op.load 31 (Go.Operand.tmp 11), type := 31, pos := "law.go:54", after := #[{ on := 13, ground := Go.Ground.guard }], guard := some (13, true) }) (v := .agg #[.int .i64 cg.kd, .string cg.us, .string cg.nt, .int .i64 cg.ts, .string cg.tn, .int .i64 cg.os, .string cg.on, .string cg.tx, .int .i64 cg.n, .slice A5 n5 c5]) rfl (by kernel_rfl) (by kernel_rfl) (by kernel_rfl) (fun _ _ _ h => h) (Or.inl ⟨by rfl, ?_⟩) (by assumption) ?_
            · (intro W hSw; (try dsimp only at hSw); go_simp; try with_reducible rfl)
            try simp only [Act.put, List.setIfInBounds_toArray, List.set_cons_zero, List.set_cons_succ]
            refine wpAnyH_take (i := 15) (oi := { dst := some 37, op := Go.Op.move (Go.Operand.tmp 3), type := 3, pos := "law.go:54", after := #[{ on := 13, ground := Go.Ground.guard }], guard := some (13, true) }) (v := .int .i64 how) rfl (by kernel_rfl) (by kernel_rfl) (by kernel_rfl) (fun _ _ _ h => h) (Or.inl ⟨by rfl, ?_⟩) (by assumption) ?_
            · (intro W hSw; (try dsimp only at hSw); go_simp; try with_reducible rfl)
            try simp only [Act.put, List.setIfInBounds_toArray, List.set_cons_zero, List.set_cons_succ]
            refine wpAnyH_take (i := 16) (oi := { dst := some 38, op := Go.Op.move (Go.Operand.tmp 4), type := 3, pos := "law.go:54", after := #[{ on := 13, ground := Go.Ground.guard }], guard := some (13, true) }) (v := .int .i64 x) rfl (by kernel_rfl) (by kernel_rfl) (by kernel_rfl) (fun _ _ _ h => h) (Or.inl ⟨by rfl, ?_⟩) (by assumption) ?_
            · (intro W hSw; (try dsimp only at hSw); go_simp; try with_reducible rfl)
            try simp only [Act.put, List.setIfInBounds_toArray, List.set_cons_zero, List.set_cons_succ]
            refine wpAnyH_take (i := 19) (oi := { dst := some 41, op := Go.Op.load 31 (Go.Operand.tmp 11), type := 31, pos := "law.go:54", after := #[{ on := 13, ground := Go.Ground.guard }], guard := some (13, true) }) (v := .agg #[.int .i64 cg.kd, .string cg.us, .string cg.nt, .int .i64 cg.ts, .string cg.tn, .int .i64 cg.os, .string cg.on, .string cg.tx, .int .i64 cg.n, .slice A5 n5 c5]) rfl (by kernel_rfl) (by kernel_rfl) (by kernel_rfl) (fun _ _ _ h => h) (Or.inl ⟨by rfl, ?_⟩) (by assumption) ?_
            · (intro W hSw; (try dsimp only at hSw); go_simp; try with_reducible rfl)
            try simp only [Act.put, List.setIfInBounds_toArray, List.set_cons_zero, List.set_cons_succ]
            refine wpAnyH_take (i := 20) (oi := { dst := some 42, op := Go.Op.move (Go.Operand.tmp 3), type := 3, pos := "law.go:54", after := #[{ on := 13, ground := Go.Ground.guard }], guard := some (13, true) }) (v := .int .i64 how) rfl (by kernel_rfl) (by kernel_rfl) (by kernel_rfl) (fun _ _ _ h => h) (Or.inl ⟨by rfl, ?_⟩) (by assumption) ?_
            · (intro W hSw; (try dsimp only at hSw); go_simp; try with_reducible rfl)
            try simp only [Act.put, List.setIfInBounds_toArray, List.set_cons_zero, List.set_cons_succ]
            refine wpAnyH_take (i := 21) (oi := { dst := some 43, op := Go.Op.move (Go.Operand.tmp 4), type := 3, pos := "law.go:54", after := #[{ on := 13, ground := Go.Ground.guard }], guard := some (13, true) }) (v := .int .i64 x) rfl (by kernel_rfl) (by kernel_rfl) (by kernel_rfl) (fun _ _ _ h => h) (Or.inl ⟨by rfl, ?_⟩) (by assumption) ?_
            · (intro W hSw; (try dsimp only at hSw); go_simp; try with_reducible rfl)
            try simp only [Act.put, List.setIfInBounds_toArray, List.set_cons_zero, List.set_cons_succ]
            refine wpAnyH_ready (rs := [17]) (by kernel_rfl) (by simp) ?_
            refine AllReadyH.cons (o := { dst := some 39, op := Go.Op.call { callee := Go.Callee.value (Go.Operand.func 12), args := #[Go.Operand.tmp 36, Go.Operand.tmp 37, Go.Operand.tmp 38], argTypes := #[31, 3, 3] }, type := 31, pos := "law.go:54", after := #[{ on := 14, ground := Go.Ground.data }, { on := 15, ground := Go.Ground.data }, { on := 16, ground := Go.Ground.data }, { on := 13, ground := Go.Ground.chain }, { on := 13, ground := Go.Ground.guard }], guard := some (13, true) }) rfl (fun K hK => ?_) ?_
            · go_simp
              (go_at_call 12; refine (HAL.out _ hB4).mono ?_; rintro e y5 ⟨C1, A6, n6, c6, rfl, hrd6, hty6, hwf6, hb5, rfl⟩; have hB5 := below_call hB4 hb5; have HV4 := Lib.hid (valid_any _ A6 n6 c6 xm y5 hrd6 hwf6.hs (HX.out _ (below_call hb06 hB5))); unfold cval at HV4; unfold cval; clear hb4 hrd6 hty6 hwf6)
              try go_wp2_with fail
              refine hK.out _ _ ?_ (fun hHeld5 => ?_)
              · try dsimp only
                first | exact hKK.out _ (below_drw (Below.refl _ _)) | exact hKK.out _ hB1 | exact hKK.out _ hB2 | exact hKK.out _ hB3 | exact hKK.out _ hB4 | exact hKK.out _ hB5 | exact hKK.out _ hB6 | exact hKK.out _ hB7 | exact hKK.out _ hB8
              clear hK K hHeld4
              try simp only [Act.put, List.setIfInBounds_toArray, List.set_cons_zero, List.set_cons_succ]
              refine wpAnyH_ready (rs := [18]) (by kernel_rfl) (by simp) ?_
              refine AllReadyH.cons (o := { dst := some 40, op := Go.Op.call { callee := Go.Callee.value (Go.Operand.func 18), args := #[Go.Operand.tmp 39], argTypes := #[31] }, type := 34, pos := "law.go:54", after := #[{ on := 17, ground := Go.Ground.data }, { on := 17, ground := Go.Ground.chain }, { on := 13, ground := Go.Ground.guard }], guard := some (13, true) }) rfl (fun K hK => ?_) ?_
              · go_simp
                (go_at_call 18; refine (HV4.out).mono ?_; rintro e y6 ⟨rfl, hb6⟩; have hB6 := below_call hB5 hb6; clear hb5 HV4)
                try go_wp2_with fail
                refine hK.out _ _ ?_ (fun hHeld6 => ?_)
                · try dsimp only
                  first | exact hKK.out _ (below_drw (Below.refl _ _)) | exact hKK.out _ hB1 | exact hKK.out _ hB2 | exact hKK.out _ hB3 | exact hKK.out _ hB4 | exact hKK.out _ hB5 | exact hKK.out _ hB6 | exact hKK.out _ hB7 | exact hKK.out _ hB8
                clear hK K hHeld5
                try simp only [Act.put, List.setIfInBounds_toArray, List.set_cons_zero, List.set_cons_succ]
                refine wpAnyH_ready (rs := [22]) (by kernel_rfl) (by simp) ?_
                refine AllReadyH.cons (o := { dst := some 44, op := Go.Op.call { callee := Go.Callee.value (Go.Operand.func 12), args := #[Go.Operand.tmp 41, Go.Operand.tmp 42, Go.Operand.tmp 43], argTypes := #[31, 3, 3] }, type := 31, pos := "law.go:54", after := #[{ on := 19, ground := Go.Ground.data }, { on := 20, ground := Go.Ground.data }, { on := 21, ground := Go.Ground.data }, { on := 18, ground := Go.Ground.chain }, { on := 13, ground := Go.Ground.guard }], guard := some (13, true) }) rfl (fun K hK => ?_) ?_
                · go_simp
                  (go_at_call 12; refine (HAL.out _ hB6).mono ?_; rintro e y7 ⟨C2, A7, n7, c7, rfl, hrd7, hty7, hwf7, hb7, rfl⟩; have hB7 := below_call hB6 hb7; have HV5 := Lib.hid (rvalid_any _ A7 n7 c7 y7 hrd7 hwf7.hs); unfold cval at HV5; unfold cval; clear hb6 hrd7 hty7 hwf7)
                  try go_wp2_with fail
                  refine hK.out _ _ ?_ (fun hHeld7 => ?_)
                  · try dsimp only
                    first | exact hKK.out _ (below_drw (Below.refl _ _)) | exact hKK.out _ hB1 | exact hKK.out _ hB2 | exact hKK.out _ hB3 | exact hKK.out _ hB4 | exact hKK.out _ hB5 | exact hKK.out _ hB6 | exact hKK.out _ hB7 | exact hKK.out _ hB8
                  clear hK K hHeld6
                  try simp only [Act.put, List.setIfInBounds_toArray, List.set_cons_zero, List.set_cons_succ]
                  refine wpAnyH_ready (rs := [23]) (by kernel_rfl) (by simp) ?_
                  refine AllReadyH.cons (o := { dst := some 45, op := Go.Op.call { callee := Go.Callee.value (Go.Operand.func 21), args := #[Go.Operand.tmp 44], argTypes := #[31] }, type := 34, pos := "law.go:54", after := #[{ on := 22, ground := Go.Ground.data }, { on := 22, ground := Go.Ground.chain }, { on := 13, ground := Go.Ground.guard }], guard := some (13, true) }) rfl (fun K hK => ?_) ?_
                  · go_simp
                    (go_at_call 21; refine (HV5.out).mono ?_; rintro e y8 ⟨rfl, hb8⟩; have hB8 := below_call hB7 hb8; clear hb7 HV5)
                    try go_wp2_with fail
                    refine hK.out _ _ ?_ (fun hHeld8 => ?_)
                    · try dsimp only
                      first | exact hKK.out _ (below_drw (Below.refl _ _)) | exact hKK.out _ hB1 | exact hKK.out _ hB2 | exact hKK.out _ hB3 | exact hKK.out _ hB4 | exact hKK.out _ hB5 | exact hKK.out _ hB6 | exact hKK.out _ hB7 | exact hKK.out _ hB8
                    clear hK K hHeld7
                    try simp only [Act.put, List.setIfInBounds_toArray, List.set_cons_zero, List.set_cons_succ]
                    refine wpAnyH_take (i := 24) (oi := { dst := some 46, op := Go.Op.binOp Go.BinOp.eql 34 (Go.Operand.tmp 40) (Go.Operand.tmp 45) 34, type := 4, pos := "law.go:54", after := #[{ on := 18, ground := Go.Ground.data }, { on := 23, ground := Go.Ground.data }, { on := 13, ground := Go.Ground.guard }], guard := some (13, true) }) (v := .bool true) rfl (by kernel_rfl) (by kernel_rfl) (by kernel_rfl) (fun _ _ _ h => h) (Or.inl ⟨by rfl, ?_⟩) (by assumption) ?_
                    · (intro W hSw; (try dsimp only at hSw); go_simp; try with_reducible rfl)
                    try simp only [Act.put, List.setIfInBounds_toArray, List.set_cons_zero, List.set_cons_succ]
                    refine wpAnyH_take (i := 25) (oi := { dst := some 47, op := Go.Op.pick (Go.Operand.tmp 35) (Go.Operand.tmp 46) (Go.Operand.const (Go.Value.bool false)), type := 4, pos := "law.go:54", after := #[{ on := 13, ground := Go.Ground.data }, { on := 24, ground := Go.Ground.data }], guard := none }) (v := .bool true) rfl (by kernel_rfl) (by kernel_rfl) (by kernel_rfl) (fun _ _ _ h => h) (Or.inl ⟨by rfl, ?_⟩) (by assumption) ?_
                    · (intro W hSw; (try dsimp only at hSw); go_simp; try with_reducible rfl)
                    try simp only [Act.put, List.setIfInBounds_toArray, List.set_cons_zero, List.set_cons_succ]
                    refine wpAnyH_take (i := 26) (oi := { dst := some 10, op := Go.Op.assign (Go.Operand.tmp 47), type := 4, pos := "law.go:54", after := #[{ on := 25, ground := Go.Ground.data }, { on := 23, ground := Go.Ground.chain }, { on := 0, ground := Go.Ground.phase }, { on := 1, ground := Go.Ground.phase }, { on := 2, ground := Go.Ground.phase }, { on := 3, ground := Go.Ground.phase }, { on := 4, ground := Go.Ground.phase }, { on := 5, ground := Go.Ground.phase }, { on := 6, ground := Go.Ground.phase }, { on := 7, ground := Go.Ground.phase }, { on := 8, ground := Go.Ground.phase }, { on := 9, ground := Go.Ground.phase }, { on := 10, ground := Go.Ground.phase }, { on := 11, ground := Go.Ground.phase }, { on := 12, ground := Go.Ground.phase }, { on := 13, ground := Go.Ground.phase }, { on := 14, ground := Go.Ground.phase }, { on := 15, ground := Go.Ground.phase }, { on := 16, ground := Go.Ground.phase }, { on := 17, ground := Go.Ground.phase }, { on := 18, ground := Go.Ground.phase }, { on := 19, ground := Go.Ground.phase }, { on := 20, ground := Go.Ground.phase }, { on := 21, ground := Go.Ground.phase }, { on := 22, ground := Go.Ground.phase }, { on := 23, ground := Go.Ground.phase }, { on := 24, ground := Go.Ground.phase }, { on := 25, ground := Go.Ground.phase }], guard := none }) (v := .bool true) rfl (by kernel_rfl) (by kernel_rfl) (by kernel_rfl) (fun _ _ _ h => h) (Or.inl ⟨by rfl, ?_⟩) (by assumption) ?_
                    · (intro W hSw; (try dsimp only at hSw); go_simp; try with_reducible rfl)
                    try simp only [Act.put, List.setIfInBounds_toArray, List.set_cons_zero, List.set_cons_succ]
                    refine wpAnyH_done (by kernel_rfl) ?_ _
                    have hb09 := below_call hb06 hB8
                    go_wp2_with fail
                    go_ret
                    exact ⟨rfl, hb09⟩
                  exact AllReadyH.nil
                exact AllReadyH.nil
              exact AllReadyH.nil
            exact AllReadyH.nil
          exact AllReadyH.nil
        exact AllReadyH.nil
      exact AllReadyH.nil
    exact AllReadyH.nil
end Go.Proofs.YtbeijpajodgpeaaDoor
