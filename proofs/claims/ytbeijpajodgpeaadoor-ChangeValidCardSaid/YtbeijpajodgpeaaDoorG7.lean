/- The walk of awake; Decode and its reference whole. -/
import Derived.Test.YtbeijpajodgpeaaDoorC25
import Derived.Test.YtbeijpajodgpeaaDoorC16
import Derived.Test.YtbeijpajodgpeaaDoorG5
namespace Go.Proofs.YtbeijpajodgpeaaDoor
open Go.RowKit
set_option linter.unusedSimpArgs false
set_option linter.unusedVariables false

theorem decode_any (A : Option Addr) (n c : Nat) (b : List UInt8) (x : Int) (w : World) (h : RdB w A n c b) (hx : Hm x w) :
    Calls Tryd.prog 25 #[.slice A n c] w (RDec w b) :=
  decode_of A n c b w h fun W A n c L hW hr hwf => encode_any A n c L x W hr hwf (hx.below hW)
def cTick : Cg := ⟨6, ⟨#[]⟩, ⟨#[]⟩, 0, ⟨#[]⟩, 0, ⟨#[]⟩, ⟨#[]⟩, 300, []⟩
def cAnn : Cg := ⟨6, ⟨#[97, 110, 110]⟩, ⟨#[]⟩, 0, ⟨#[]⟩, 0, ⟨#[]⟩, ⟨#[]⟩, 5, []⟩
def cWat : Cg := ⟨7, ⟨#[]⟩, ⟨#[]⟩, 0, ⟨#[65]⟩, 0, ⟨#[]⟩, ⟨#[]⟩, 0, []⟩
theorem cTick_val : cval cTick none 0 0 = .agg #[.int .i64 6, .string ⟨#[]⟩, .string ⟨#[]⟩, .int .i64 0, .string ⟨#[]⟩, .int .i64 0, .string ⟨#[]⟩, .string ⟨#[]⟩, .int .i64 300, .slice none 0 0] := rfl
theorem cTick_ok : cv cTick = 0 := by kernel_rfl
theorem nmb_300 : nmb 300 = [172, 2] := by
  rw [nmb_ge (by omega), nmb_lt (by omega)]
  rfl
theorem encC_tick : encC cTick = [6, 172, 2] := by
  show nmb 6 ++ [] ++ [] ++ [] ++ [] ++ [] ++ nmb 300 ++ [] = _
  rw [nmb_300, nmb_lt (by omega)]
  rfl
theorem encL_tick : encL [cTick] = [1, 6, 172, 2] := by
  show nmb 1 ++ (encC cTick ++ []) = _
  rw [encC_tick, nmb_lt (by omega)]
  rfl
theorem ecE_tick : ecE [cTick] = 0 := by
  refine ecE_yes (by simp) ?_ (by rw [encL_tick]; decide)
  show (if cv cTick = 0 then 0 else cv cTick) = 0
  rw [if_pos cTick_ok]
theorem ecB_tick : ecB [cTick] = [1, 6, 172, 2] := by rw [ecB_yes ecE_tick, encL_tick]
theorem dc_tick : dc [1, 6, 172, 2] = some [cTick] := by rw [← encL_tick]; exact dc_enc ecE_tick
theorem dcE_tick : dcE [1, 6, 172, 2] = 0 := dcE_some dc_tick
theorem dcL_tick : dcL [1, 6, 172, 2] = [cTick] := dcL_some dc_tick
theorem cAnn_ev : cv cAnn = 7 := by kernel_rfl
theorem cWat_ev : cv cWat = 2 := by kernel_rfl
theorem rdc_one {w : World} (a : Cg) (h : a.hs = []) : RdR RC 10 (w.alloc (.cells #[.int .i64 a.kd, .string a.us, .string a.nt, .int .i64 a.ts, .string a.tn, .int .i64 a.os, .string a.on, .string a.tx, .int .i64 a.n, .slice none 0 0] 31)) (some ⟨w.heap.size, 0, none⟩) 1 1 [a] :=
  ⟨rfl, Nat.le_refl _, by unfold maxLen; omega, _, Reads.litAt rfl rfl, Fits.one (a := a) rfl ⟨none, 0, 0, rfl, by rw [h]; exact RdR.nil _ _ _⟩⟩
theorem RdB.lit4 {w : World} {t : Nat} : RdB (w.alloc (.cells #[.int .u8 1, .int .u8 6, .int .u8 172, .int .u8 2] t)) (some ⟨w.heap.size, 0, none⟩) 4 4 [1, 6, 172, 2] := RdB.lit (cs := #[.int .u8 1, .int .u8 6, .int .u8 172, .int .u8 2]) (heap_new_o' rfl) rfl rfl (Nat.le_refl _) (by unfold maxLen; omega)

set_option maxRecDepth 100000 in
set_option maxHeartbeats 16000000 in
theorem awake_any (x : Int) (w : World) (hx : Hm x w) :
    Calls Tryd.prog 14 #[] w fun e w' => e = .returned (.bool true) ∧ Below w.heap.size w w' := by
  have HX := Lib.hid fun (W : World) (hW : Below w.heap.size w W) => hx.below hW
  have hal : Below w.heap.size w (w.alloc (.cells #[.int .i64 6, .string ⟨#[]⟩, .string ⟨#[]⟩, .int .i64 0, .string ⟨#[]⟩, .int .i64 0, .string ⟨#[]⟩, .string ⟨#[]⟩, .int .i64 300, .slice none 0 0] 31)) := (Below.refl _ _).alloc (Nat.le_refl _) _
  have HE := Lib.hid (encode_any _ _ _ [cTick] x _ (rdc_one (w := w) cTick rfl) (fun a ha => by simp only [List.mem_singleton] at ha; subst ha; exact cgwf_of_cv cTick_ok) (HX.out _ hal))
  unfold REnc at HE
  rw [ecE_tick, ecB_tick] at HE
  clear hx
  go_enter Tryd.func14, Tryd.ntmps14
  go_wp2_with fail
  go_at_call 13
  refine HE.out.mono ?_
  rintro e w1 ⟨A1, n1, c1, rfl, ho1, hb1⟩
  have hb01 := below_call hal hb1
  have HO1 := Lib.hid ho1
  clear HE hal ho1 hb1
  have hal : Below w1.heap.size w1 (w1.alloc (.cells #[.int .u8 1, .int .u8 6, .int .u8 172, .int .u8 2] 5)) := (Below.refl _ _).alloc (Nat.le_refl _) _
  have HD := Lib.hid (decode_any _ _ _ _ x _ (RdB.lit4 (w := w1) (t := 5)) (HX.out _ (below_call hb01 hal)))
  unfold RDec at HD
  rw [dcE_tick, dcL_tick] at HD
  go_wp2_with fail
  go_at_call 25
  refine HD.out.mono ?_
  rintro e w2 ⟨A2, n2, c2, rfl, ho2, hb2⟩
  have hb02 := below_call (below_call hb01 hal) hb2
  obtain rfl : n2 = 1 := ho2.len
  obtain ⟨b, off, rfl, hbl, hc⟩ := RdC.opened (OwC.rd ho2) (by omega)
  obtain ⟨A5, n5, c5, -, -, -, -, -, -, -, -, x8, -, -⟩ := hc 0 (by omega)
  rw [Nat.zero_mul, Nat.add_zero] at x8
  have x8 : w2.cell? ⟨b, off + 8, none⟩ = some (.int .i64 300) := x8
  have hal2 : Below w2.heap.size w2 (w2.alloc (.cells #[.int .u8 1, .int .u8 6, .int .u8 172, .int .u8 2] 5)) := (Below.refl _ _).alloc (Nat.le_refl _) _
  have HSM := Lib.hid (same_bytes _ _ _ _ _ _ _ _ _ ((HO1.out.rd.below (below_call hal hb2)).below hal2) (RdB.lit4 (w := w2) (t := 5)))
  rw [decide_eq_true rfl] at HSM
  have HV1 : Hid (∀ W, Below w.heap.size w W → Calls Tryd.prog 18 #[.agg #[.int .i64 6, .string ⟨#[97, 110, 110]⟩, .string ⟨#[]⟩, .int .i64 0, .string ⟨#[]⟩, .int .i64 0, .string ⟨#[]⟩, .string ⟨#[]⟩, .int .i64 5, .slice none 0 0]] W fun e w' => e = .returned (.int .i64 7) ∧ Below W.heap.size W w') := Lib.hid fun W hW => by
    have := valid_any cAnn none 0 0 x W (RdR.nil _ _ _) (fun r hr => by cases hr) (HX.out W hW)
    rw [cAnn_ev] at this
    exact this
  have HV2 : Hid (∀ W, Below w.heap.size w W → Calls Tryd.prog 18 #[.agg #[.int .i64 7, .string ⟨#[]⟩, .string ⟨#[]⟩, .int .i64 0, .string ⟨#[65]⟩, .int .i64 0, .string ⟨#[]⟩, .string ⟨#[]⟩, .int .i64 0, .slice none 0 0]] W fun e w' => e = .returned (.int .i64 2) ∧ Below W.heap.size W w') := Lib.hid fun W hW => by
    have := valid_any cWat none 0 0 x W (RdR.nil _ _ _) (fun r hr => by cases hr) (HX.out W hW)
    rw [cWat_ev] at this
    exact this
  clear HD hal hb2 ho2 hc HX
  have hb03 := below_call hb02 hal2
  go_wp2_with fail
  go_at_call 15
  refine HSM.out.mono ?_
  rintro e w3 ⟨rfl, hb3⟩
  have y8 := (hb3.cell (p := ⟨b, off + 8, none⟩) (Nat.lt_of_lt_of_le hbl hal2.size)).trans ((hal2.cell (p := ⟨b, off + 8, none⟩) hbl).trans x8)
  have hb04 := below_call hb03 hb3
  clear HSM x8 hal2 hb3
  go_wp2_with fail
  go_at_call 18
  refine (HV1.out _ hb04).mono ?_
  rintro e w4 ⟨rfl, hb4⟩
  have hb05 := below_call hb04 hb4
  go_wp2_with fail
  go_at_call 18
  refine (HV2.out _ hb05).mono ?_
  rintro e w5 ⟨rfl, hb5⟩
  have hb06 := below_call hb05 hb5
  go_wp2_with fail
  go_ret
  exact ⟨rfl, hb06⟩
end Go.Proofs.YtbeijpajodgpeaaDoor
