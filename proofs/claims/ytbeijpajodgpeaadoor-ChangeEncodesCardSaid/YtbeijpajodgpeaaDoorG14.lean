/- The walk of ChangeEncodes. Printed by gen_g14.py -/
import Derived.Test.YtbeijpajodgpeaaDoorG13
import Derived.Test.YtbeijpajodgpeaaDoorG11
import Derived.Test.YtbeijpajodgpeaaDoorC17
namespace Go.Proofs.YtbeijpajodgpeaaDoor
open Go.RowKit
set_option linter.unusedSimpArgs false
set_option linter.unusedVariables false

set_option maxRecDepth 100000 in
set_option maxHeartbeats 8000000 in
theorem encodes_any (A : Option Addr) (n c : Nat) (L : List Cg) (x : Int) (w : World) (h : RdR RC 10 w A n c L) (hwf : ∀ a ∈ L, CgWf a) (hx : Hm x w) :
    Calls Tryd.prog 22 #[.slice A n c] w fun e w' => e = .returned (.bool true) ∧ Below w.heap.size w w' := by
  have HD := Lib.hid (encode_any A n c L x w h hwf hx)
  have HD2 := Lib.hid fun W (hW : Below w.heap.size w W) => rencode_any A n c L W (RdC.below h hW) hwf
  unfold REnc at HD HD2
  generalize ecE L = V at *
  generalize ecB L = M at *
  clear h hwf hx
  go_enter Tryd.func22, Tryd.ntmps22
  go_wp2_with fail
  go_at_call 13
  refine HD.out.mono ?_
  rintro e w1 ⟨A1, n1, c1, rfl, ho1, hb1⟩
  have HO1 := Lib.hid ho1
  clear HD ho1
  go_wp2_with fail
  go_at_call 40
  refine (HD2.out _ hb1).mono ?_
  rintro e w2 ⟨A2, n2, c2, rfl, ho2, hb2⟩
  have HSC := Lib.hid (same_bytes A1 n1 c1 M A2 n2 c2 M w2 (HO1.out.rd.below hb2) ho2.rd)
  rw [decide_eq_true rfl] at HSC
  have hb02 := below_call hb1 hb2
  clear HD2 ho2 hb1 hb2
  go_wp2_with fail
  go_at_call 15
  refine HSC.out.mono ?_
  rintro e w3 ⟨rfl, hb3⟩
  have hb03 := below_call hb02 hb3
  go_wp2_with fail
  go_ret
  exact ⟨rfl, hb03⟩


set_option maxRecDepth 100000 in
set_option maxHeartbeats 16000000 in
theorem encodes_walk (B : Option Addr) (m d : Nat) (LA : List Cg) (A : Option Addr) (n c : Nat) (zs : List Int) (clock how x xm : Int) (w : World) (hra : RdR RC 10 w B m d LA) (hwa : ∀ a ∈ LA, CgWf a) (hr : RdN w A n c zs) (hx : Hm xm w) :
    Calls Tryd.prog 6 #[.slice B m d, .slice A n c, .int .i64 clock, .int .i64 how, .int .i64 x] w fun e w' => e = .returned (.bool true) ∧ Below w.heap.size w w' := by
  obtain ⟨i0, hi0, hz0, hz1, hz2⟩ := info_parts cg_info
  have HA := Lib.hid fun (W : World) (hW : Below w.heap.size w W) => awake_any xm W (hx.below hW)
  have HX := Lib.hid fun (W : World) (hW : Below w.heap.size w W) => hx.below hW
  have HRA := Lib.hid fun (W : World) (hW : Below w.heap.size w W) => RdC.below hra hW
  have HWA := Lib.hid hwa
  have HR := Lib.hid (fun W => round_any clock 9 W (by omega) (by omega))
  have HCK := Lib.hid (ck_ok clock)
  have HRN := Lib.hid hr
  have HFW := Lib.hid (few_any B m d LA w hra)
  have hub : ∀ b : Bool, (some undef = some (Value.bool b)) = False := fun b => by simp [undef]
  have hub2 : ∀ b : Bool, (undef = Value.bool b) = False := fun b => by simp [undef]
  clear hr hx hra hwa
  go_enter Tryd.func6, Tryd.ntmps6
  go_wp2_with fail
  go_at_call 19
  refine HFW.out.mono ?_
  rintro e w0 ⟨⟨b, rfl⟩, hb0⟩
  have HF := Lib.hid (from_sg A n c zs w w0 HRN.out hb0)
  cases b with
  | false =>
    go_wp2_with fail
    go_at_call 14
    refine (HA.out _ hb0).mono ?_
    rintro e w1 ⟨rfl, hb1⟩
    have hb01 := below_call hb0 hb1
    go_wp2_with fail
    go_ret
    exact ⟨rfl, hb01⟩
  | true =>
    go_wp2_with fail
    go_at_call 11
    refine HF.out.mono ?_
    rintro e w1 ⟨g, rfl, hS1, hb1⟩
    go_wp2_with fail
    go_at_call 17
    refine (HR.out _).mono ?_
    rintro e wn ⟨rfl, hwn⟩
    obtain rfl := hwn.symm
    clear hwn HR HF
    go_wp2_with fail
    go_at_call 10
    refine (changes_mk w g A n c zs _ w1 hS1 HCK.out).mono ?_
    rintro e w2 ⟨A2, n2, c2, L, rfl, ho, hmc, hl1, hl2, hS2, hg2⟩
    have hb2 := hS2.b
    have HWC := Lib.hid (fun a ha => cgwf_of_cv (hmc a ha).ok)
    have HLN := Lib.hid ho.len
    have HO := Lib.hid (OwC.rd ho)
    have h0L : 0 < L.length := by omega
    have hn2 : n2 ≤ 2 ∧ 1 ≤ n2 := by have := HLN.out; omega
    have hn0 : 0 < n2 := by omega
    obtain ⟨gb, Ah, nh, ch, rfl, hgb0, hgb1, kf, kc, hrd, hty⟩ := OwC.head ho h0L
    have hod := ho.call RCT.stay (below_drw (Below.refl _ _))
    obtain ⟨xs, hxo, hxf⟩ := hod.own
    have HXR := Lib.hid (Reads.of_own hxo)
    have HXF := Lib.hid hxf
    have HX1 := Lib.hid (Fits.cells1 hxf (by rw [← HLN.out]; exact hxo.1))
    have hmc0 : MC (L.getD 0 cg0) := hmc _ (by rw [List.getD_eq_getElem?_getD, List.getElem?_eq_getElem h0L, Option.getD_some]; exact List.getElem_mem h0L)
    have HAL := Lib.hid (fun W (hW : Below w2.heap.size w2 W) => altered_any _ Ah nh ch how x W (RdV.below hrd hW) (hty.below hW) (cgwf_of_cv hmc0.ok) (by have := hmc0.tx; omega) (by have := hmc0.hl; have := hrd.len; omega))
    unfold cval at HAL
    generalize L.getD 0 cg0 = a0 at *
    have hKK : Hid (∀ W, Below w2.heap.size w2 W → W.cell? ⟨gb, 0, none⟩ = some (.int .i64 a0.kd) ∧ W.cell? ⟨gb, 1, none⟩ = some (.string a0.us) ∧ W.cell? ⟨gb, 2, none⟩ = some (.string a0.nt) ∧ W.cell? ⟨gb, 3, none⟩ = some (.int .i64 a0.ts) ∧ W.cell? ⟨gb, 4, none⟩ = some (.string a0.tn) ∧ W.cell? ⟨gb, 5, none⟩ = some (.int .i64 a0.os) ∧ W.cell? ⟨gb, 6, none⟩ = some (.string a0.on) ∧ W.cell? ⟨gb, 7, none⟩ = some (.string a0.tx) ∧ W.cell? ⟨gb, 8, none⟩ = some (.int .i64 a0.n) ∧ W.cell? ⟨gb, 9, none⟩ = some (.slice Ah nh ch)) := Lib.hid fun W hW => ⟨(hW.cell (p := ⟨gb, 0, none⟩) hgb1).trans (kc 0 _ rfl), (hW.cell (p := ⟨gb, 1, none⟩) hgb1).trans (kc 1 _ rfl), (hW.cell (p := ⟨gb, 2, none⟩) hgb1).trans (kc 2 _ rfl), (hW.cell (p := ⟨gb, 3, none⟩) hgb1).trans (kc 3 _ rfl), (hW.cell (p := ⟨gb, 4, none⟩) hgb1).trans (kc 4 _ rfl), (hW.cell (p := ⟨gb, 5, none⟩) hgb1).trans (kc 5 _ rfl), (hW.cell (p := ⟨gb, 6, none⟩) hgb1).trans (kc 6 _ rfl), (hW.cell (p := ⟨gb, 7, none⟩) hgb1).trans (kc 7 _ rfl), (hW.cell (p := ⟨gb, 8, none⟩) hgb1).trans (kc 8 _ rfl), (hW.cell (p := ⟨gb, 9, none⟩) hgb1).trans (kc 9 _ rfl)⟩
    clear hS1 hS2 hg2 hb1 ho hmc hl1 hl2 hxo hxf hod kf kc hrd hty hmc0 HCK HRN HFW h0L hgb0 hgb1
    go_upto_region 4 with fail
    refine wp_region_held_drew (S := fun W => W.cell? ⟨gb, 0, none⟩ = some (.int .i64 a0.kd) ∧ W.cell? ⟨gb, 1, none⟩ = some (.string a0.us) ∧ W.cell? ⟨gb, 2, none⟩ = some (.string a0.nt) ∧ W.cell? ⟨gb, 3, none⟩ = some (.int .i64 a0.ts) ∧ W.cell? ⟨gb, 4, none⟩ = some (.string a0.tn) ∧ W.cell? ⟨gb, 5, none⟩ = some (.int .i64 a0.os) ∧ W.cell? ⟨gb, 6, none⟩ = some (.string a0.on) ∧ W.cell? ⟨gb, 7, none⟩ = some (.string a0.tx) ∧ W.cell? ⟨gb, 8, none⟩ = some (.int .i64 a0.n) ∧ W.cell? ⟨gb, 9, none⟩ = some (.slice Ah nh ch)) (by kernel_rfl) ?_ (fun hHeld0 => ?_)
    · try dsimp only
      first | exact hKK.out _ (below_drw (Below.refl _ _)) | exact hKK.out _ hB3 | exact hKK.out _ hB4 | exact hKK.out _ hB5 | exact hKK.out _ hB6
    refine wpAnyH_take (i := 0) (oi := { dst := some 22, op := Go.Op.move (Go.Operand.tmp 11), type := 23, pos := "law.go:70", after := #[], guard := none }) (v := .slice (some ⟨gb, 0, none⟩) n2 c2) rfl (by kernel_rfl) (by kernel_rfl) (by kernel_rfl) (fun _ _ _ h => h) (Or.inl ⟨by rfl, ?_⟩) (by assumption) ?_
    · (intro W hSw; (try dsimp only at hSw); go_simp; try with_reducible rfl)
    try simp only [Act.put, List.setIfInBounds_toArray, List.set_cons_zero, List.set_cons_succ]
    refine wpAnyH_take (i := 2) (oi := { dst := some 24, op := Go.Op.move (Go.Operand.tmp 11), type := 23, pos := "law.go:70", after := #[], guard := none }) (v := .slice (some ⟨gb, 0, none⟩) n2 c2) rfl (by kernel_rfl) (by kernel_rfl) (by kernel_rfl) (fun _ _ _ h => h) (Or.inl ⟨by rfl, ?_⟩) (by assumption) ?_
    · (intro W hSw; (try dsimp only at hSw); go_simp; try with_reducible rfl)
    try simp only [Act.put, List.setIfInBounds_toArray, List.set_cons_zero, List.set_cons_succ]
    refine wpAnyH_take (i := 3) (oi := { dst := some 25, op := Go.Op.indexAddr 23 (Go.Operand.tmp 24) (Go.Operand.const (Go.Value.int Go.IntKind.i64 0)), type := 0, pos := "law.go:70", after := #[{ on := 2, ground := Go.Ground.data }], guard := none }) (v := .pointer (some ⟨gb, 0, none⟩)) rfl (by kernel_rfl) (by kernel_rfl) (by kernel_rfl) (fun _ _ _ h => h) (Or.inl ⟨by rfl, ?_⟩) (by assumption) ?_
    · (intro W hSw; (try dsimp only at hSw); go_simp; try with_reducible rfl)
    try simp only [Act.put, List.setIfInBounds_toArray, List.set_cons_zero, List.set_cons_succ]
    refine wpAnyH_take (i := 4) (oi := { dst := some 26, op := Go.Op.load 31 (Go.Operand.tmp 25), type := 31, pos := "law.go:70", after := #[{ on := 3, ground := Go.Ground.data }], guard := none }) (v := .agg #[.int .i64 a0.kd, .string a0.us, .string a0.nt, .int .i64 a0.ts, .string a0.tn, .int .i64 a0.os, .string a0.on, .string a0.tx, .int .i64 a0.n, .slice Ah nh ch]) rfl (by kernel_rfl) (by kernel_rfl) (by kernel_rfl) (fun _ _ _ h => h) (Or.inl ⟨by rfl, ?_⟩) (by assumption) ?_
    · (intro W hSw; (try dsimp only at hSw); go_simp; try with_reducible rfl)
    try simp only [Act.put, List.setIfInBounds_toArray, List.set_cons_zero, List.set_cons_succ]
    refine wpAnyH_take (i := 5) (oi := { dst := some 27, op := Go.Op.move (Go.Operand.tmp 3), type := 3, pos := "law.go:70", after := #[], guard := none }) (v := .int .i64 how) rfl (by kernel_rfl) (by kernel_rfl) (by kernel_rfl) (fun _ _ _ h => h) (Or.inl ⟨by rfl, ?_⟩) (by assumption) ?_
    · (intro W hSw; (try dsimp only at hSw); go_simp; try with_reducible rfl)
    try simp only [Act.put, List.setIfInBounds_toArray, List.set_cons_zero, List.set_cons_succ]
    refine wpAnyH_take (i := 6) (oi := { dst := some 28, op := Go.Op.move (Go.Operand.tmp 4), type := 3, pos := "law.go:70", after := #[], guard := none }) (v := .int .i64 x) rfl (by kernel_rfl) (by kernel_rfl) (by kernel_rfl) (fun _ _ _ h => h) (Or.inl ⟨by rfl, ?_⟩) (by assumption) ?_
    · (intro W hSw; (try dsimp only at hSw); go_simp; try with_reducible rfl)
    try simp only [Act.put, List.setIfInBounds_toArray, List.set_cons_zero, List.set_cons_succ]
    refine wpAnyH_ready (rs := [1]) (by kernel_rfl) (by simp) ?_
    refine AllReadyH.cons (o := { dst := some 23, op := Go.Op.call { callee := Go.Callee.builtin Go.Builtin.append, args := #[Go.Operand.const (Go.Value.slice none 0 0), Go.Operand.tmp 22], argTypes := #[23, 23] }, type := 23, pos := "law.go:70", after := #[{ on := 0, ground := Go.Ground.data }], guard := none }) rfl (fun K hK => ?_) ?_
    · (refine step_append_r _ rfl (.const (.slice none 0 0)) (.tmp 22) 23 rfl 10 136 w2.heap.size 31 i0 _ RCT.stay (by decide) Tryd.underlying23 hi0 hz0 hz1 hz2 rfl (by omega) none 0 0 [] rfl (OwR.nil _ _ _ _ _) (some ⟨gb, 0, none⟩) n2 c2 rfl L xs HXR.out HXF.out HLN.out HX1.out ?_ ?_ ?_ ?_; (focus (unfold maxLen; omega)); (focus omega); (focus exact Nat.le_refl _); intro A3 c3 w3 ho3 hg3; rw [Nat.zero_add, List.nil_append] at ho3; rw [Nat.zero_add]; have hB3 : Below w2.heap.size w2 w3 := (below_drw (Below.refl _ _)).trans hg3.b; have ho3h := Lib.hid ho3; clear ho3 hg3)
      refine hK.out _ _ ?_ (fun hHeld1 => ?_)
      · try dsimp only
        first | exact hKK.out _ (below_drw (Below.refl _ _)) | exact hKK.out _ hB3 | exact hKK.out _ hB4 | exact hKK.out _ hB5 | exact hKK.out _ hB6
      clear hK K hHeld0
      try simp only [Act.put, List.setIfInBounds_toArray, List.set_cons_zero, List.set_cons_succ]
      refine wpAnyH_ready (rs := [7]) (by kernel_rfl) (by simp) ?_
      refine AllReadyH.cons (o := { dst := some 29, op := Go.Op.call { callee := Go.Callee.value (Go.Operand.func 12), args := #[Go.Operand.tmp 26, Go.Operand.tmp 27, Go.Operand.tmp 28], argTypes := #[31, 3, 3] }, type := 31, pos := "law.go:70", after := #[{ on := 4, ground := Go.Ground.data }, { on := 5, ground := Go.Ground.data }, { on := 6, ground := Go.Ground.data }, { on := 1, ground := Go.Ground.chain }], guard := none }) rfl (fun K hK => ?_) ?_
      · go_simp
        (go_at_call 12; refine (HAL.out _ hB3).mono ?_; rintro e w4 ⟨C, A4, n4, c4, rfl, hrd4, hty4, hwf4, hb4, -⟩; have hB4 := below_call hB3 hb4; have hle := hB4.size; have hb5 : Below w4.heap.size w4 (w4.alloc (.cells #[.int .i64 C.kd, .string C.us, .string C.nt, .int .i64 C.ts, .string C.tn, .int .i64 C.os, .string C.on, .string C.tx, .int .i64 C.n, .slice A4 n4 c4] 31)) := (Below.refl _ _).alloc (Nat.le_refl _) _; have hB5 := hB4.alloc hle (.cells #[.int .i64 C.kd, .string C.us, .string C.nt, .int .i64 C.ts, .string C.tn, .int .i64 C.os, .string C.on, .string C.tx, .int .i64 C.n, .slice A4 n4 c4] 31); have HO4 := Lib.hid ((ho3h.out.call RCT.stay hb4).call RCT.stay hb5); have HFT := Lib.hid (cg_fits (a := C) (RdV.below hrd4 hb5) (hty4.below hb5)); have HW4 := Lib.hid hwf4; clear hwf4 hrd4 hty4 hb4; unfold cval)
        try go_wp2_with fail
        refine hK.out _ _ ?_ (fun hHeld2 => ?_)
        · try dsimp only
          first | exact hKK.out _ (below_drw (Below.refl _ _)) | exact hKK.out _ hB3 | exact hKK.out _ hB4 | exact hKK.out _ hB5 | exact hKK.out _ hB6
        clear hK K hHeld1
        try simp only [Act.put, List.setIfInBounds_toArray, List.set_cons_zero, List.set_cons_succ]
        refine wpAnyH_ready (rs := [8]) (by kernel_rfl) (by simp) ?_
        refine AllReadyH.cons (o := { dst := some 30, op := Go.Op.buildSlice 23 1 #[(0, Go.Operand.tmp 29)], type := 23, pos := "law.go:70", after := #[{ on := 7, ground := Go.Ground.data }], guard := none }) rfl (fun K hK => ?_) ?_
        · go_simp
          refine hK.out _ _ ?_ (fun hHeld3 => ?_)
          · try dsimp only
            first | exact hKK.out _ (below_drw (Below.refl _ _)) | exact hKK.out _ hB3 | exact hKK.out _ hB4 | exact hKK.out _ hB5 | exact hKK.out _ hB6
          clear hK K hHeld2
          try simp only [Act.put, List.setIfInBounds_toArray, List.set_cons_zero, List.set_cons_succ]
          refine wpAnyH_ready (rs := [9]) (by kernel_rfl) (by simp) ?_
          refine AllReadyH.cons (o := { dst := some 31, op := Go.Op.call { callee := Go.Callee.builtin Go.Builtin.append, args := #[Go.Operand.tmp 23, Go.Operand.tmp 30], argTypes := #[23, 23] }, type := 23, pos := "law.go:70", after := #[{ on := 1, ground := Go.Ground.data }, { on := 8, ground := Go.Ground.data }, { on := 7, ground := Go.Ground.chain }], guard := none }) rfl (fun K hK => ?_) ?_
          · (refine step_append_r _ rfl (.tmp 23) (.tmp 30) 23 rfl 10 136 w2.heap.size 31 i0 _ RCT.stay (by decide) Tryd.underlying23 hi0 hz0 hz1 hz2 rfl (by omega) A3 n2 c3 L (by simp [Act.eval, Act.put]) HO4.out (some ⟨w4.heap.size, 0, none⟩) 1 1 (by simp [Act.eval, Act.put]) [C] _ (Reads.litAt (cs := #[.int .i64 C.kd, .string C.us, .string C.nt, .int .i64 C.ts, .string C.tn, .int .i64 C.os, .string C.on, .string C.tx, .int .i64 C.n, .slice A4 n4 c4]) rfl rfl) HFT.out rfl ?_ ?_ ?_ ?_ ?_; (focus (simp [Value.oneCell'])); (focus (unfold maxLen; omega)); (focus omega); (focus (rw [size_alloc_]; omega)); intro A6 c6 w6 ho6 hg6; have hB6 : Below w2.heap.size w2 w6 := hB5.trans hg6.b; have HO6 := Lib.hid (OwC.rd ho6); clear ho6 hg6)
            refine hK.out _ _ ?_ (fun hHeld4 => ?_)
            · try dsimp only
              first | exact hKK.out _ (below_drw (Below.refl _ _)) | exact hKK.out _ hB3 | exact hKK.out _ hB4 | exact hKK.out _ hB5 | exact hKK.out _ hB6
            clear hK K hHeld3
            try simp only [Act.put, List.setIfInBounds_toArray, List.set_cons_zero, List.set_cons_succ]
            refine wpAnyH_take (i := 10) (oi := { dst := some 12, op := Go.Op.assign (Go.Operand.tmp 31), type := 23, pos := "law.go:70", after := #[{ on := 9, ground := Go.Ground.data }, { on := 9, ground := Go.Ground.chain }, { on := 0, ground := Go.Ground.phase }, { on := 1, ground := Go.Ground.phase }, { on := 2, ground := Go.Ground.phase }, { on := 3, ground := Go.Ground.phase }, { on := 4, ground := Go.Ground.phase }, { on := 5, ground := Go.Ground.phase }, { on := 6, ground := Go.Ground.phase }, { on := 7, ground := Go.Ground.phase }, { on := 8, ground := Go.Ground.phase }, { on := 9, ground := Go.Ground.phase }], guard := none }) (v := .slice A6 (n2 + 1) c6) rfl (by kernel_rfl) (by kernel_rfl) (by kernel_rfl) (fun _ _ _ h => h) (Or.inl ⟨by rfl, ?_⟩) (by assumption) ?_
            · (intro W hSw; (try dsimp only at hSw); go_simp; try with_reducible rfl)
            try simp only [Act.put, List.setIfInBounds_toArray, List.set_cons_zero, List.set_cons_succ]
            refine wpAnyH_done (by kernel_rfl) ?_ _
            clear hKK HAL HO4 HFT hb5 hB4 hB5 hB3 ho3h
            have hb06 := hb2.trans (hB6.mono hb2.size)
            have HOC := Lib.hid (RdC.below HO.out hB6)
            have HWD : Hid (∀ a ∈ L ++ [C], CgWf a) := Lib.hid (fun a ha => by
              rcases List.mem_append.1 ha with h | h
              · exact HWC.out a h
              · simp only [List.mem_singleton] at h; rw [h]; exact HW4.out)
            generalize L ++ [C] = M at *
            go_wp2_with fail
            go_at_call 14
            refine (HA.out _ hb06).mono ?_
            rintro e w7 ⟨rfl, hb7⟩
            have hb07 := below_call hb06 hb7
            go_wp2_with fail
            go_at_call 22
            refine (encodes_any B m d LA xm w7 (HRA.out _ hb07) HWA.out (HX.out _ hb07)).mono ?_
            rintro e w8 ⟨rfl, hb8⟩
            have hb08 := below_call hb07 hb8
            have hb68 := below_call hb7 hb8
            go_wp2_with fail
            go_at_call 22
            refine (encodes_any _ n2 c2 L xm w8 (RdC.below HOC.out hb68) HWC.out (HX.out _ hb08)).mono ?_
            rintro e w9 ⟨rfl, hb9⟩
            have hb09 := below_call hb08 hb9
            have hb69 := below_call hb68 hb9
            go_wp2_with fail
            go_at_call 22
            refine (encodes_any _ (n2 + 1) _ M xm w9 (RdC.below HO6.out hb69) HWD.out (HX.out _ hb09)).mono ?_
            rintro e wa ⟨rfl, hba⟩
            have hb0a := below_call hb09 hba
            go_wp2_with fail
            go_ret
            exact ⟨rfl, hb0a⟩
          exact AllReadyH.nil
        exact AllReadyH.nil
      exact AllReadyH.nil
    exact AllReadyH.nil
end Go.Proofs.YtbeijpajodgpeaaDoor
