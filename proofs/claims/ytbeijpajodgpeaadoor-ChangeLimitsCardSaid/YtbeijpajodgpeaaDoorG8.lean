/- The walk of ChangeLimits. Printed by gen_g8.py -/
import Derived.Test.YtbeijpajodgpeaaDoorG7
import Derived.Test.YtbeijpajodgpeaaDoorMG
namespace Go.Proofs.YtbeijpajodgpeaaDoor
open Go.RowKit
set_option linter.unusedSimpArgs false
set_option linter.unusedVariables false

theorem zeros_conv (N : Nat) (hN : N ≤ 1000000) : ∃ s : ByteArray, s.size = N ∧ ∀ W : World, (convert 33 9 (.slice (some ⟨W.heap.size, 0, none⟩) N N)).run Tryd.prog (W.alloc (.cells (madeCells #[.int .u8 0] N) 5)) = .ok (.string s) (W.alloc (.cells (madeCells #[.int .u8 0] N) 5)) :=
  ⟨⟨(List.replicate N 0).toArray⟩, by simp [ByteArray.size], fun W => conv_rd (OwB.zeros (w := W) (base := W.heap.size) (e := 5) (Nat.le_refl _) (by unfold maxLen; omega)).rd⟩
theorem tv_A : tv 0 ⟨#[65]⟩ = true := by kernel_rfl
/-- a put of title A -/
def cPut (nt tx : ByteArray) : Cg := ⟨1, ⟨#[]⟩, nt, 0, ⟨#[65]⟩, 0, ⟨#[]⟩, tx, 0, []⟩
theorem cPut_cv (nt tx : ByteArray) : cv (cPut nt tx) = if 8192 < tx.size ∨ 200 < nt.size then 3 else 0 := by
  have h1 : frm (cPut nt tx) = true := rfl
  have h2 : rng (cPut nt tx) = true := by simp [rng, cPut, fT, fO, fK, fH, isUs_nil, tv_A]
  have h3 : fV (cPut nt tx).kd = true := rfl
  have h4 : (cPut nt tx).hs.any bigR = false := rfl
  have h5 : bigC (cPut nt tx) = decide (8192 < tx.size ∨ 200 < nt.size) := by unfold bigC cPut; by_cases a : 8192 < tx.size <;> by_cases b : 200 < nt.size <;> simp [a, b]
  unfold cv
  rw [h1, h2, h3, h4, h5]
  by_cases h : 8192 < tx.size ∨ 200 < nt.size <;> simp [h]
def cP0 : Cg := cPut ⟨#[]⟩ ⟨#[]⟩
theorem cP0_mc : MC cP0 := ⟨by rw [cP0, cPut_cv]; rfl, Nat.zero_le _, Nat.zero_le _, fun r h => by cases h⟩
theorem ecE_rep {k : Nat} (h1 : 1 ≤ k) (h2 : k ≤ 16) : ecE (List.replicate k cP0) = 0 := by
  have hf := flat_small (List.replicate k cP0) (fun c hc => by rw [List.eq_of_mem_replicate hc]; exact cP0_mc)
  have := nmb_len 5 k (by omega)
  rw [List.length_replicate] at hf
  refine ecE_yes (by rw [List.length_replicate]; omega) (fstE_of fun c hc => by rw [List.eq_of_mem_replicate hc]; exact cP0_mc.ok) ?_
  unfold encL
  rw [List.length_append, List.length_replicate]
  omega
theorem ecE_rep17 : ecE (List.replicate 17 cP0) = 2 := ecE_len (.inr (by simp))
theorem ecB_rep17 : ecB (List.replicate 17 cP0) = [] := ecB_no (by rw [ecE_rep17]; decide)

set_option maxRecDepth 100000 in
set_option maxHeartbeats 16000000 in
theorem limits_walk (how more x : Int) (w : World) (hx : Hm x w) :
    Calls Tryd.prog 4 #[.int .i64 how, .int .i64 more] w fun e w' => e = .returned (.bool true) ∧ Below w.heap.size w w' := by
  obtain ⟨i0, hi0, hz0, hz1, hz2⟩ := info_parts cg_info
  obtain ⟨u0, hu0, hv0, hv1, hv2⟩ := u8_parts
  have HX := Lib.hid fun (W : World) (hW : Below w.heap.size w W) => hx.below hW
  have HA := Lib.hid fun (W : World) (hW : Below w.heap.size w W) => awake_any x W (hx.below hW)
  have HR1 := Lib.hid (fun W => round_any more 3 W (by omega) (by omega))
  have HR2 := Lib.hid (fun W => round_any how 3 W (by omega) (by omega))
  have HV : Hid (∀ (nt tx : ByteArray) (W : World), Below w.heap.size w W → Calls Tryd.prog 18 #[.agg #[.int .i64 1, .string ⟨#[]⟩, .string nt, .int .i64 0, .string ⟨#[65]⟩, .int .i64 0, .string ⟨#[]⟩, .string tx, .int .i64 0, .slice none 0 0]] W fun e w' => e = .returned (.int .i64 (if 8192 < tx.size ∨ 200 < nt.size then 3 else 0)) ∧ Below W.heap.size W w') := Lib.hid fun nt tx W hW => by
    have := valid_any (cPut nt tx) none 0 0 x W (RdR.nil _ _ _) (fun r hr => by cases hr) (HX.out W hW)
    rw [cPut_cv] at this
    exact this
  have HENC := Lib.hid fun (W : World) (A : Option Addr) (n c : Nat) (L : List Cg) (hW : Below w.heap.size w W) (hr : RdR RC 10 W A n c L) (hwf : ∀ a ∈ L, CgWf a) => encode_any A n c L x W hr hwf (hx.below hW)
  have hub : ∀ b : Bool, (some undef = some (Value.bool b)) = False := fun b => by simp [undef]
  have hub2 : ∀ b : Bool, (undef = Value.bool b) = False := fun b => by simp [undef]
  have hm0 : 0 ≤ more % 3 := Int.emod_nonneg _ (by decide)
  have hm1 : more % 3 < 3 := Int.emod_lt_of_pos _ (by decide)
  have hh0 : 0 ≤ how % 3 := Int.emod_nonneg _ (by decide)
  have hh1 : how % 3 < 3 := Int.emod_lt_of_pos _ (by decide)
  clear hx
  generalize more % 3 = m3 at *
  generalize how % 3 = h3 at *
  have kb : (w.alloc (.cells #[.int .i64 1, .string ⟨#[]⟩, .string ⟨#[]⟩, .int .i64 0, .string ⟨#[65]⟩, .int .i64 0, .string ⟨#[]⟩, .string ⟨#[]⟩, .int .i64 0, .slice none 0 0] 31)).heap[w.heap.size]? = some (.cells #[.int .i64 1, .string ⟨#[]⟩, .string ⟨#[]⟩, .int .i64 0, .string ⟨#[65]⟩, .int .i64 0, .string ⟨#[]⟩, .string ⟨#[]⟩, .int .i64 0, .slice none 0 0] 31 (0, 0)) := heap_new rfl
  have hb0 : Below w.heap.size w (w.alloc (.cells #[.int .i64 1, .string ⟨#[]⟩, .string ⟨#[]⟩, .int .i64 0, .string ⟨#[65]⟩, .int .i64 0, .string ⟨#[]⟩, .string ⟨#[]⟩, .int .i64 0, .slice none 0 0] 31)) := (Below.refl _ _).alloc (Nat.le_refl _) _
  go_enter Tryd.func4, Tryd.ntmps4
  go_wp2_with fail
  go_at_call 17
  refine (HR1.out _).mono ?_
  rintro e wn ⟨rfl, hwn⟩
  obtain rfl := hwn.symm
  clear hwn HR1
  have hm : m3 = 0 ∨ m3 = 1 ∨ m3 = 2 := by omega
  have hh : h3 = 0 ∨ h3 = 1 ∨ h3 = 2 := by omega
  clear hm0 hm1 hh0 hh1
  rcases hm with rfl | rfl | rfl
  · go_wp2_with fail
    go_at_call 17
    refine (HR2.out _).mono ?_
    rintro e wn ⟨rfl, hwn⟩
    obtain rfl := hwn.symm
    clear hwn HR2
    generalize w.alloc (.cells #[.int .i64 1, .string ⟨#[]⟩, .string ⟨#[]⟩, .int .i64 0, .string ⟨#[65]⟩, .int .i64 0, .string ⟨#[]⟩, .string ⟨#[]⟩, .int .i64 0, .slice none 0 0] 31) = y0 at *
    have kc := Blk.cell kb
    have kf := Blk.frozen kb
    rcases hh with rfl | rfl | rfl
    · obtain ⟨s, hs, hcv⟩ := zeros_conv 8191 (by omega)
      have hmk : ∀ W : World, (Instr.makeSlice 33 (.int .i64 8191) (.int .i64 8191)).run Tryd.prog W = .ok (.slice (some ⟨W.heap.size, 0, none⟩) 8191 8191) (W.alloc (.cells (madeCells #[.int .u8 0] 8191) 5)) := fun W : World => run_make_u8 (P := Tryd.prog) (t := 33) Tryd.underlying33 hu0 hv0 hv1 hv2 8191 (by omega) W
      have hal : Below y0.heap.size y0 (y0.alloc (.cells (madeCells #[.int .u8 0] 8191) 5)) := (Below.refl _ _).alloc (Nat.le_refl _) _
      have kb2 := heap_call hal kb
      have kc2 := Blk.cell kb2
      have kf2 := Blk.frozen kb2
      have kb3 : ((y0.alloc (.cells (madeCells #[.int .u8 0] 8191) 5)).setCell ⟨w.heap.size, 7, none⟩ (.string s)).heap[w.heap.size]? = some (.cells #[.int .i64 1, .string ⟨#[]⟩, .string ⟨#[]⟩, .int .i64 0, .string ⟨#[65]⟩, .int .i64 0, .string ⟨#[]⟩, .string s, .int .i64 0, .slice none 0 0] 31 (0, 0)) := heap_set_near _ _ _ _ _ _ kb2
      have hb3 : Below w.heap.size w ((y0.alloc (.cells (madeCells #[.int .u8 0] 8191) 5)).setCell ⟨w.heap.size, 7, none⟩ (.string s)) := (below_call hb0 hal).setCell (Nat.le_refl _) _
      have HVX := Lib.hid (HV.out ⟨#[]⟩ s _ hb3)
      have hev : (if 8192 < (s : ByteArray).size ∨ 200 < (⟨#[]⟩ : ByteArray).size then (3 : Int) else 0) = 0 := by rw [hs]; rfl
      rw [hev] at HVX
      clear hev hs hal
      go_upto_region 15 with fail
      clear kc2 kf2 hcv hmk kb kb2 kc kf
      generalize (y0.alloc (.cells (madeCells #[.int .u8 0] 8191) 5)).setCell ⟨w.heap.size, 7, none⟩ (.string s) = y1 at *
      have kc3 := Blk.cell kb3
      go_wp2_with fail
      go_at_call 18
      refine HVX.out.mono ?_
      rintro e w2 ⟨rfl, hb4⟩
      have hb5 := below_call hb3 hb4
      go_wp2_with fail
      go_at_call 14
      refine (HA.out _ hb5).mono ?_
      rintro e w3 ⟨rfl, hb6⟩
      have hb7 := below_call hb5 hb6
      go_wp2_with fail
      go_ret
      exact ⟨rfl, hb7⟩
    · obtain ⟨s, hs, hcv⟩ := zeros_conv 199 (by omega)
      have hmk : ∀ W : World, (Instr.makeSlice 33 (.int .i64 199) (.int .i64 199)).run Tryd.prog W = .ok (.slice (some ⟨W.heap.size, 0, none⟩) 199 199) (W.alloc (.cells (madeCells #[.int .u8 0] 199) 5)) := fun W : World => run_make_u8 (P := Tryd.prog) (t := 33) Tryd.underlying33 hu0 hv0 hv1 hv2 199 (by omega) W
      have hal : Below y0.heap.size y0 (y0.alloc (.cells (madeCells #[.int .u8 0] 199) 5)) := (Below.refl _ _).alloc (Nat.le_refl _) _
      have kb2 := heap_call hal kb
      have kc2 := Blk.cell kb2
      have kf2 := Blk.frozen kb2
      have kb3 : ((y0.alloc (.cells (madeCells #[.int .u8 0] 199) 5)).setCell ⟨w.heap.size, 2, none⟩ (.string s)).heap[w.heap.size]? = some (.cells #[.int .i64 1, .string ⟨#[]⟩, .string s, .int .i64 0, .string ⟨#[65]⟩, .int .i64 0, .string ⟨#[]⟩, .string ⟨#[]⟩, .int .i64 0, .slice none 0 0] 31 (0, 0)) := heap_set_near _ _ _ _ _ _ kb2
      have hb3 : Below w.heap.size w ((y0.alloc (.cells (madeCells #[.int .u8 0] 199) 5)).setCell ⟨w.heap.size, 2, none⟩ (.string s)) := (below_call hb0 hal).setCell (Nat.le_refl _) _
      have HVX := Lib.hid (HV.out s ⟨#[]⟩ _ hb3)
      have hev : (if 8192 < (⟨#[]⟩ : ByteArray).size ∨ 200 < (s : ByteArray).size then (3 : Int) else 0) = 0 := by rw [hs]; rfl
      rw [hev] at HVX
      clear hev hs hal
      go_upto_region 15 with fail
      clear kc2 kf2 hcv hmk kb kb2 kc kf
      generalize (y0.alloc (.cells (madeCells #[.int .u8 0] 199) 5)).setCell ⟨w.heap.size, 2, none⟩ (.string s) = y1 at *
      have kc3 := Blk.cell kb3
      go_wp2_with fail
      go_at_call 18
      refine HVX.out.mono ?_
      rintro e w2 ⟨rfl, hb4⟩
      have hb5 := below_call hb3 hb4
      go_wp2_with fail
      go_at_call 14
      refine (HA.out _ hb5).mono ?_
      rintro e w3 ⟨rfl, hb6⟩
      have hb7 := below_call hb5 hb6
      go_wp2_with fail
      go_ret
      exact ⟨rfl, hb7⟩
    · go_wp2_with fail
      go_loopw [7, 8] (fun a q wr => ∃ (i : Nat) (A1 : Option Addr) (n1 c1 : Nat), i ≤ 15 ∧ a = .slice A1 n1 c1 ∧ q = .int .i64 i ∧ n1 = i ∧ OwR RCT 10 wr (w.heap.size + 1) 31 A1 n1 c1 (List.replicate i cP0) ∧ wr.heap[w.heap.size]? = some (.cells #[.int .i64 1, .string ⟨#[]⟩, .string ⟨#[]⟩, .int .i64 0, .string ⟨#[65]⟩, .int .i64 0, .string ⟨#[]⟩, .string ⟨#[]⟩, .int .i64 0, .slice none 0 0] 31 (0, 0)) ∧ Below w.heap.size w wr) (fun _ q _ => 15 - (intOf q).toNat)
      case atStart => exact ⟨0, none, 0, 0, Nat.zero_le _, rfl, rfl, rfl, OwR.nil _ _ _ _ _, kb, hb0⟩
      case round =>
        obtain ⟨i, A1, n1, c1, hi, rfl, rfl, hni, ho, kbw, hbw⟩ := hrel
        subst hni
        clear kc kf kb hb0
        have kcw := Blk.cell kbw
        have hbz := Blk.lt kbw
        by_cases hlt : n1 < 15
        · have z1 : (n1 : Int) < 15 := by omega
          have hl4 : Below wr.heap.size wr (wr.alloc (.cells #[.int .i64 1, .string ⟨#[]⟩, .string ⟨#[]⟩, .int .i64 0, .string ⟨#[65]⟩, .int .i64 0, .string ⟨#[]⟩, .string ⟨#[]⟩, .int .i64 0, .slice none 0 0] 31)) := (Below.refl _ _).alloc (Nat.le_refl _) _
          have hol := ho.call RCT.stay hl4
          have HFT := Lib.hid (fun W => cg_fits (w := W) (a := cP0) (A := none) (n := 0) (c := 0) (RdR.nil _ _ _) (fun ad h => by cases h))
          go_wp2_with (at_builtin; go_must (refine wpList_append_r _ rfl (.tmp 25) (.tmp 27) 23 rfl 10 136 (w.heap.size + 1) 31 i0 _ RCT.stay (by decide) Tryd.underlying23 hi0 hz0 hz1 hz2 rfl (by omega) A1 n1 c1 _ rfl hol (some ⟨wr.heap.size, 0, none⟩) 1 1 rfl [cP0] _ (Reads.litAt (cs := #[.int .i64 1, .string ⟨#[]⟩, .string ⟨#[]⟩, .int .i64 0, .string ⟨#[65]⟩, .int .i64 0, .string ⟨#[]⟩, .string ⟨#[]⟩, .int .i64 0, .slice none 0 0]) rfl rfl) (HFT.out _) rfl ?_ ?_ ?_ ?_ ?_; (focus (simp [Value.oneCell'])); (focus (unfold maxLen; omega)); (focus omega); (focus (rw [size_alloc_]; omega)); intro A5 c5 w5 ho5 hg5))
          have hrp : List.replicate n1 cP0 ++ [cP0] = List.replicate (n1 + 1) cP0 := (List.replicate_succ').symm
          rw [hrp] at ho5
          have kb5 := (hg5.b.block w.heap.size (Nat.lt_succ_self _)).trans (heap_call hl4 kbw)
          have hb5 := (below_call hbw hl4).trans (hg5.b.mono (Nat.le_succ _))
          go_roundw
          case rel => exact ⟨n1 + 1, A5, n1 + 1, c5, by omega, rfl, by go_num, rfl, ho5, kb5, hb5⟩
          case measure => simp [intOf]; omega
        · obtain rfl : n1 = 15 := by omega
          have HE := Lib.hid (HENC.out wr A1 15 c1 _ hbw (OwC.rd ho) (fun a ha => by rw [List.eq_of_mem_replicate ha]; exact cgwf_of_cv cP0_mc.ok))
          unfold REnc at HE
          rw [ecE_rep (by omega) (by omega)] at HE
          clear ho kbw kcw
          go_wp2_with fail
          go_at_call 13
          refine HE.out.mono ?_
          rintro e w2 ⟨A2, n2, c2, rfl, ho2, hb2⟩
          have hb3 := below_call hbw hb2
          go_wp2_with fail
          go_at_call 14
          refine (HA.out _ hb3).mono ?_
          rintro e w3 ⟨rfl, hb6⟩
          have hb7 := below_call hb3 hb6
          go_wp2_with fail
          go_ret
          exact ⟨rfl, hb7⟩
  · go_wp2_with fail
    go_at_call 17
    refine (HR2.out _).mono ?_
    rintro e wn ⟨rfl, hwn⟩
    obtain rfl := hwn.symm
    clear hwn HR2
    generalize w.alloc (.cells #[.int .i64 1, .string ⟨#[]⟩, .string ⟨#[]⟩, .int .i64 0, .string ⟨#[65]⟩, .int .i64 0, .string ⟨#[]⟩, .string ⟨#[]⟩, .int .i64 0, .slice none 0 0] 31) = y0 at *
    have kc := Blk.cell kb
    have kf := Blk.frozen kb
    rcases hh with rfl | rfl | rfl
    · obtain ⟨s, hs, hcv⟩ := zeros_conv 8192 (by omega)
      have hmk : ∀ W : World, (Instr.makeSlice 33 (.int .i64 8192) (.int .i64 8192)).run Tryd.prog W = .ok (.slice (some ⟨W.heap.size, 0, none⟩) 8192 8192) (W.alloc (.cells (madeCells #[.int .u8 0] 8192) 5)) := fun W : World => run_make_u8 (P := Tryd.prog) (t := 33) Tryd.underlying33 hu0 hv0 hv1 hv2 8192 (by omega) W
      have hal : Below y0.heap.size y0 (y0.alloc (.cells (madeCells #[.int .u8 0] 8192) 5)) := (Below.refl _ _).alloc (Nat.le_refl _) _
      have kb2 := heap_call hal kb
      have kc2 := Blk.cell kb2
      have kf2 := Blk.frozen kb2
      have kb3 : ((y0.alloc (.cells (madeCells #[.int .u8 0] 8192) 5)).setCell ⟨w.heap.size, 7, none⟩ (.string s)).heap[w.heap.size]? = some (.cells #[.int .i64 1, .string ⟨#[]⟩, .string ⟨#[]⟩, .int .i64 0, .string ⟨#[65]⟩, .int .i64 0, .string ⟨#[]⟩, .string s, .int .i64 0, .slice none 0 0] 31 (0, 0)) := heap_set_near _ _ _ _ _ _ kb2
      have hb3 : Below w.heap.size w ((y0.alloc (.cells (madeCells #[.int .u8 0] 8192) 5)).setCell ⟨w.heap.size, 7, none⟩ (.string s)) := (below_call hb0 hal).setCell (Nat.le_refl _) _
      have HVX := Lib.hid (HV.out ⟨#[]⟩ s _ hb3)
      have hev : (if 8192 < (s : ByteArray).size ∨ 200 < (⟨#[]⟩ : ByteArray).size then (3 : Int) else 0) = 0 := by rw [hs]; rfl
      rw [hev] at HVX
      clear hev hs hal
      go_upto_region 15 with fail
      clear kc2 kf2 hcv hmk kb kb2 kc kf
      generalize (y0.alloc (.cells (madeCells #[.int .u8 0] 8192) 5)).setCell ⟨w.heap.size, 7, none⟩ (.string s) = y1 at *
      have kc3 := Blk.cell kb3
      go_wp2_with fail
      go_at_call 18
      refine HVX.out.mono ?_
      rintro e w2 ⟨rfl, hb4⟩
      have hb5 := below_call hb3 hb4
      go_wp2_with fail
      go_at_call 14
      refine (HA.out _ hb5).mono ?_
      rintro e w3 ⟨rfl, hb6⟩
      have hb7 := below_call hb5 hb6
      go_wp2_with fail
      go_ret
      exact ⟨rfl, hb7⟩
    · obtain ⟨s, hs, hcv⟩ := zeros_conv 200 (by omega)
      have hmk : ∀ W : World, (Instr.makeSlice 33 (.int .i64 200) (.int .i64 200)).run Tryd.prog W = .ok (.slice (some ⟨W.heap.size, 0, none⟩) 200 200) (W.alloc (.cells (madeCells #[.int .u8 0] 200) 5)) := fun W : World => run_make_u8 (P := Tryd.prog) (t := 33) Tryd.underlying33 hu0 hv0 hv1 hv2 200 (by omega) W
      have hal : Below y0.heap.size y0 (y0.alloc (.cells (madeCells #[.int .u8 0] 200) 5)) := (Below.refl _ _).alloc (Nat.le_refl _) _
      have kb2 := heap_call hal kb
      have kc2 := Blk.cell kb2
      have kf2 := Blk.frozen kb2
      have kb3 : ((y0.alloc (.cells (madeCells #[.int .u8 0] 200) 5)).setCell ⟨w.heap.size, 2, none⟩ (.string s)).heap[w.heap.size]? = some (.cells #[.int .i64 1, .string ⟨#[]⟩, .string s, .int .i64 0, .string ⟨#[65]⟩, .int .i64 0, .string ⟨#[]⟩, .string ⟨#[]⟩, .int .i64 0, .slice none 0 0] 31 (0, 0)) := heap_set_near _ _ _ _ _ _ kb2
      have hb3 : Below w.heap.size w ((y0.alloc (.cells (madeCells #[.int .u8 0] 200) 5)).setCell ⟨w.heap.size, 2, none⟩ (.string s)) := (below_call hb0 hal).setCell (Nat.le_refl _) _
      have HVX := Lib.hid (HV.out s ⟨#[]⟩ _ hb3)
      have hev : (if 8192 < (⟨#[]⟩ : ByteArray).size ∨ 200 < (s : ByteArray).size then (3 : Int) else 0) = 0 := by rw [hs]; rfl
      rw [hev] at HVX
      clear hev hs hal
      go_upto_region 15 with fail
      clear kc2 kf2 hcv hmk kb kb2 kc kf
      generalize (y0.alloc (.cells (madeCells #[.int .u8 0] 200) 5)).setCell ⟨w.heap.size, 2, none⟩ (.string s) = y1 at *
      have kc3 := Blk.cell kb3
      go_wp2_with fail
      go_at_call 18
      refine HVX.out.mono ?_
      rintro e w2 ⟨rfl, hb4⟩
      have hb5 := below_call hb3 hb4
      go_wp2_with fail
      go_at_call 14
      refine (HA.out _ hb5).mono ?_
      rintro e w3 ⟨rfl, hb6⟩
      have hb7 := below_call hb5 hb6
      go_wp2_with fail
      go_ret
      exact ⟨rfl, hb7⟩
    · go_wp2_with fail
      go_loopw [7, 8] (fun a q wr => ∃ (i : Nat) (A1 : Option Addr) (n1 c1 : Nat), i ≤ 16 ∧ a = .slice A1 n1 c1 ∧ q = .int .i64 i ∧ n1 = i ∧ OwR RCT 10 wr (w.heap.size + 1) 31 A1 n1 c1 (List.replicate i cP0) ∧ wr.heap[w.heap.size]? = some (.cells #[.int .i64 1, .string ⟨#[]⟩, .string ⟨#[]⟩, .int .i64 0, .string ⟨#[65]⟩, .int .i64 0, .string ⟨#[]⟩, .string ⟨#[]⟩, .int .i64 0, .slice none 0 0] 31 (0, 0)) ∧ Below w.heap.size w wr) (fun _ q _ => 16 - (intOf q).toNat)
      case atStart => exact ⟨0, none, 0, 0, Nat.zero_le _, rfl, rfl, rfl, OwR.nil _ _ _ _ _, kb, hb0⟩
      case round =>
        obtain ⟨i, A1, n1, c1, hi, rfl, rfl, hni, ho, kbw, hbw⟩ := hrel
        subst hni
        clear kc kf kb hb0
        have kcw := Blk.cell kbw
        have hbz := Blk.lt kbw
        by_cases hlt : n1 < 16
        · have z1 : (n1 : Int) < 16 := by omega
          have hl4 : Below wr.heap.size wr (wr.alloc (.cells #[.int .i64 1, .string ⟨#[]⟩, .string ⟨#[]⟩, .int .i64 0, .string ⟨#[65]⟩, .int .i64 0, .string ⟨#[]⟩, .string ⟨#[]⟩, .int .i64 0, .slice none 0 0] 31)) := (Below.refl _ _).alloc (Nat.le_refl _) _
          have hol := ho.call RCT.stay hl4
          have HFT := Lib.hid (fun W => cg_fits (w := W) (a := cP0) (A := none) (n := 0) (c := 0) (RdR.nil _ _ _) (fun ad h => by cases h))
          go_wp2_with (at_builtin; go_must (refine wpList_append_r _ rfl (.tmp 25) (.tmp 27) 23 rfl 10 136 (w.heap.size + 1) 31 i0 _ RCT.stay (by decide) Tryd.underlying23 hi0 hz0 hz1 hz2 rfl (by omega) A1 n1 c1 _ rfl hol (some ⟨wr.heap.size, 0, none⟩) 1 1 rfl [cP0] _ (Reads.litAt (cs := #[.int .i64 1, .string ⟨#[]⟩, .string ⟨#[]⟩, .int .i64 0, .string ⟨#[65]⟩, .int .i64 0, .string ⟨#[]⟩, .string ⟨#[]⟩, .int .i64 0, .slice none 0 0]) rfl rfl) (HFT.out _) rfl ?_ ?_ ?_ ?_ ?_; (focus (simp [Value.oneCell'])); (focus (unfold maxLen; omega)); (focus omega); (focus (rw [size_alloc_]; omega)); intro A5 c5 w5 ho5 hg5))
          have hrp : List.replicate n1 cP0 ++ [cP0] = List.replicate (n1 + 1) cP0 := (List.replicate_succ').symm
          rw [hrp] at ho5
          have kb5 := (hg5.b.block w.heap.size (Nat.lt_succ_self _)).trans (heap_call hl4 kbw)
          have hb5 := (below_call hbw hl4).trans (hg5.b.mono (Nat.le_succ _))
          go_roundw
          case rel => exact ⟨n1 + 1, A5, n1 + 1, c5, by omega, rfl, by go_num, rfl, ho5, kb5, hb5⟩
          case measure => simp [intOf]; omega
        · obtain rfl : n1 = 16 := by omega
          have HE := Lib.hid (HENC.out wr A1 16 c1 _ hbw (OwC.rd ho) (fun a ha => by rw [List.eq_of_mem_replicate ha]; exact cgwf_of_cv cP0_mc.ok))
          unfold REnc at HE
          rw [ecE_rep (by omega) (by omega)] at HE
          clear ho kbw kcw
          go_wp2_with fail
          go_at_call 13
          refine HE.out.mono ?_
          rintro e w2 ⟨A2, n2, c2, rfl, ho2, hb2⟩
          have hb3 := below_call hbw hb2
          go_wp2_with fail
          go_at_call 14
          refine (HA.out _ hb3).mono ?_
          rintro e w3 ⟨rfl, hb6⟩
          have hb7 := below_call hb3 hb6
          go_wp2_with fail
          go_ret
          exact ⟨rfl, hb7⟩
  · go_wp2_with fail
    go_at_call 17
    refine (HR2.out _).mono ?_
    rintro e wn ⟨rfl, hwn⟩
    obtain rfl := hwn.symm
    clear hwn HR2
    generalize w.alloc (.cells #[.int .i64 1, .string ⟨#[]⟩, .string ⟨#[]⟩, .int .i64 0, .string ⟨#[65]⟩, .int .i64 0, .string ⟨#[]⟩, .string ⟨#[]⟩, .int .i64 0, .slice none 0 0] 31) = y0 at *
    have kc := Blk.cell kb
    have kf := Blk.frozen kb
    rcases hh with rfl | rfl | rfl
    · obtain ⟨s, hs, hcv⟩ := zeros_conv 8193 (by omega)
      have hmk : ∀ W : World, (Instr.makeSlice 33 (.int .i64 8193) (.int .i64 8193)).run Tryd.prog W = .ok (.slice (some ⟨W.heap.size, 0, none⟩) 8193 8193) (W.alloc (.cells (madeCells #[.int .u8 0] 8193) 5)) := fun W : World => run_make_u8 (P := Tryd.prog) (t := 33) Tryd.underlying33 hu0 hv0 hv1 hv2 8193 (by omega) W
      have hal : Below y0.heap.size y0 (y0.alloc (.cells (madeCells #[.int .u8 0] 8193) 5)) := (Below.refl _ _).alloc (Nat.le_refl _) _
      have kb2 := heap_call hal kb
      have kc2 := Blk.cell kb2
      have kf2 := Blk.frozen kb2
      have kb3 : ((y0.alloc (.cells (madeCells #[.int .u8 0] 8193) 5)).setCell ⟨w.heap.size, 7, none⟩ (.string s)).heap[w.heap.size]? = some (.cells #[.int .i64 1, .string ⟨#[]⟩, .string ⟨#[]⟩, .int .i64 0, .string ⟨#[65]⟩, .int .i64 0, .string ⟨#[]⟩, .string s, .int .i64 0, .slice none 0 0] 31 (0, 0)) := heap_set_near _ _ _ _ _ _ kb2
      have hb3 : Below w.heap.size w ((y0.alloc (.cells (madeCells #[.int .u8 0] 8193) 5)).setCell ⟨w.heap.size, 7, none⟩ (.string s)) := (below_call hb0 hal).setCell (Nat.le_refl _) _
      have HVX := Lib.hid (HV.out ⟨#[]⟩ s _ hb3)
      have hev : (if 8192 < (s : ByteArray).size ∨ 200 < (⟨#[]⟩ : ByteArray).size then (3 : Int) else 0) = 3 := by rw [hs]; rfl
      rw [hev] at HVX
      clear hev hs hal
      go_upto_region 15 with fail
      clear kc2 kf2 hcv hmk kb kb2 kc kf
      generalize (y0.alloc (.cells (madeCells #[.int .u8 0] 8193) 5)).setCell ⟨w.heap.size, 7, none⟩ (.string s) = y1 at *
      have kc3 := Blk.cell kb3
      go_wp2_with fail
      go_at_call 18
      refine HVX.out.mono ?_
      rintro e w2 ⟨rfl, hb4⟩
      have hb5 := below_call hb3 hb4
      go_wp2_with fail
      go_at_call 14
      refine (HA.out _ hb5).mono ?_
      rintro e w3 ⟨rfl, hb6⟩
      have hb7 := below_call hb5 hb6
      go_wp2_with fail
      go_ret
      exact ⟨rfl, hb7⟩
    · obtain ⟨s, hs, hcv⟩ := zeros_conv 201 (by omega)
      have hmk : ∀ W : World, (Instr.makeSlice 33 (.int .i64 201) (.int .i64 201)).run Tryd.prog W = .ok (.slice (some ⟨W.heap.size, 0, none⟩) 201 201) (W.alloc (.cells (madeCells #[.int .u8 0] 201) 5)) := fun W : World => run_make_u8 (P := Tryd.prog) (t := 33) Tryd.underlying33 hu0 hv0 hv1 hv2 201 (by omega) W
      have hal : Below y0.heap.size y0 (y0.alloc (.cells (madeCells #[.int .u8 0] 201) 5)) := (Below.refl _ _).alloc (Nat.le_refl _) _
      have kb2 := heap_call hal kb
      have kc2 := Blk.cell kb2
      have kf2 := Blk.frozen kb2
      have kb3 : ((y0.alloc (.cells (madeCells #[.int .u8 0] 201) 5)).setCell ⟨w.heap.size, 2, none⟩ (.string s)).heap[w.heap.size]? = some (.cells #[.int .i64 1, .string ⟨#[]⟩, .string s, .int .i64 0, .string ⟨#[65]⟩, .int .i64 0, .string ⟨#[]⟩, .string ⟨#[]⟩, .int .i64 0, .slice none 0 0] 31 (0, 0)) := heap_set_near _ _ _ _ _ _ kb2
      have hb3 : Below w.heap.size w ((y0.alloc (.cells (madeCells #[.int .u8 0] 201) 5)).setCell ⟨w.heap.size, 2, none⟩ (.string s)) := (below_call hb0 hal).setCell (Nat.le_refl _) _
      have HVX := Lib.hid (HV.out s ⟨#[]⟩ _ hb3)
      have hev : (if 8192 < (⟨#[]⟩ : ByteArray).size ∨ 200 < (s : ByteArray).size then (3 : Int) else 0) = 3 := by rw [hs]; rfl
      rw [hev] at HVX
      clear hev hs hal
      go_upto_region 15 with fail
      clear kc2 kf2 hcv hmk kb kb2 kc kf
      generalize (y0.alloc (.cells (madeCells #[.int .u8 0] 201) 5)).setCell ⟨w.heap.size, 2, none⟩ (.string s) = y1 at *
      have kc3 := Blk.cell kb3
      go_wp2_with fail
      go_at_call 18
      refine HVX.out.mono ?_
      rintro e w2 ⟨rfl, hb4⟩
      have hb5 := below_call hb3 hb4
      go_wp2_with fail
      go_at_call 14
      refine (HA.out _ hb5).mono ?_
      rintro e w3 ⟨rfl, hb6⟩
      have hb7 := below_call hb5 hb6
      go_wp2_with fail
      go_ret
      exact ⟨rfl, hb7⟩
    · go_wp2_with fail
      go_loopw [7, 8] (fun a q wr => ∃ (i : Nat) (A1 : Option Addr) (n1 c1 : Nat), i ≤ 17 ∧ a = .slice A1 n1 c1 ∧ q = .int .i64 i ∧ n1 = i ∧ OwR RCT 10 wr (w.heap.size + 1) 31 A1 n1 c1 (List.replicate i cP0) ∧ wr.heap[w.heap.size]? = some (.cells #[.int .i64 1, .string ⟨#[]⟩, .string ⟨#[]⟩, .int .i64 0, .string ⟨#[65]⟩, .int .i64 0, .string ⟨#[]⟩, .string ⟨#[]⟩, .int .i64 0, .slice none 0 0] 31 (0, 0)) ∧ Below w.heap.size w wr) (fun _ q _ => 17 - (intOf q).toNat)
      case atStart => exact ⟨0, none, 0, 0, Nat.zero_le _, rfl, rfl, rfl, OwR.nil _ _ _ _ _, kb, hb0⟩
      case round =>
        obtain ⟨i, A1, n1, c1, hi, rfl, rfl, hni, ho, kbw, hbw⟩ := hrel
        subst hni
        clear kc kf kb hb0
        have kcw := Blk.cell kbw
        have hbz := Blk.lt kbw
        by_cases hlt : n1 < 17
        · have z1 : (n1 : Int) < 17 := by omega
          have hl4 : Below wr.heap.size wr (wr.alloc (.cells #[.int .i64 1, .string ⟨#[]⟩, .string ⟨#[]⟩, .int .i64 0, .string ⟨#[65]⟩, .int .i64 0, .string ⟨#[]⟩, .string ⟨#[]⟩, .int .i64 0, .slice none 0 0] 31)) := (Below.refl _ _).alloc (Nat.le_refl _) _
          have hol := ho.call RCT.stay hl4
          have HFT := Lib.hid (fun W => cg_fits (w := W) (a := cP0) (A := none) (n := 0) (c := 0) (RdR.nil _ _ _) (fun ad h => by cases h))
          go_wp2_with (at_builtin; go_must (refine wpList_append_r _ rfl (.tmp 25) (.tmp 27) 23 rfl 10 136 (w.heap.size + 1) 31 i0 _ RCT.stay (by decide) Tryd.underlying23 hi0 hz0 hz1 hz2 rfl (by omega) A1 n1 c1 _ rfl hol (some ⟨wr.heap.size, 0, none⟩) 1 1 rfl [cP0] _ (Reads.litAt (cs := #[.int .i64 1, .string ⟨#[]⟩, .string ⟨#[]⟩, .int .i64 0, .string ⟨#[65]⟩, .int .i64 0, .string ⟨#[]⟩, .string ⟨#[]⟩, .int .i64 0, .slice none 0 0]) rfl rfl) (HFT.out _) rfl ?_ ?_ ?_ ?_ ?_; (focus (simp [Value.oneCell'])); (focus (unfold maxLen; omega)); (focus omega); (focus (rw [size_alloc_]; omega)); intro A5 c5 w5 ho5 hg5))
          have hrp : List.replicate n1 cP0 ++ [cP0] = List.replicate (n1 + 1) cP0 := (List.replicate_succ').symm
          rw [hrp] at ho5
          have kb5 := (hg5.b.block w.heap.size (Nat.lt_succ_self _)).trans (heap_call hl4 kbw)
          have hb5 := (below_call hbw hl4).trans (hg5.b.mono (Nat.le_succ _))
          go_roundw
          case rel => exact ⟨n1 + 1, A5, n1 + 1, c5, by omega, rfl, by go_num, rfl, ho5, kb5, hb5⟩
          case measure => simp [intOf]; omega
        · obtain rfl : n1 = 17 := by omega
          have HE := Lib.hid (HENC.out wr A1 17 c1 _ hbw (OwC.rd ho) (fun a ha => by rw [List.eq_of_mem_replicate ha]; exact cgwf_of_cv cP0_mc.ok))
          unfold REnc at HE
          rw [ecE_rep17, ecB_rep17] at HE
          clear ho kbw kcw
          go_wp2_with fail
          go_at_call 13
          refine HE.out.mono ?_
          rintro e w2 ⟨A2, n2, c2, rfl, ho2, hb2⟩
          have hb3 := below_call hbw hb2
          obtain rfl : n2 = 0 := ho2.len
          go_wp2_with fail
          go_at_call 14
          refine (HA.out _ hb3).mono ?_
          rintro e w3 ⟨rfl, hb6⟩
          have hb7 := below_call hb3 hb6
          go_wp2_with fail
          go_ret
          exact ⟨rfl, hb7⟩
end Go.Proofs.YtbeijpajodgpeaaDoor
