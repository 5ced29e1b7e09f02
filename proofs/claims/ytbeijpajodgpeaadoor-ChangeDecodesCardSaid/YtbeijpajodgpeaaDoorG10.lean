/- The walks of ChangeBack, decodes, ChangeCuts and ChangeDecodes. -/
import Derived.Test.YtbeijpajodgpeaaDoorG9
namespace Go.Proofs.YtbeijpajodgpeaaDoor
open Go.RowKit
set_option linter.unusedSimpArgs false
set_option linter.unusedVariables false

theorem ck_ok (v : Int) : 0 ≤ v % 9 ∧ v % 9 ≤ 8 := by
  have h1 := Int.emod_nonneg v (by decide : (9 : Int) ≠ 0)
  have h2 := Int.emod_lt_of_pos v (by decide : (0 : Int) < 9)
  omega
/-- From, and the source's state -/
theorem from_sg (A : Option Addr) (n c : Nat) (zs : List Int) (w0 w : World) (hr : RdN w0 A n c zs) (hb : Below w0.heap.size w0 w) :
    Calls Tryd.prog 11 #[.slice A n c] w fun e w' => ∃ g, e = .returned (.pointer (some ⟨g, 0, none⟩)) ∧ SG w0 w' g A n c zs ∧ Below w.heap.size w w' :=
  (from_any A n c zs w ⟨hr.len, hr.cap, hr.max, (hr.reads.below hb).more hb.size⟩).mono fun e w' ⟨v, he, ⟨g, hv, hg, hs⟩, hb2⟩ => ⟨g, by rw [he, hv], ⟨hr, below_call hb hb2, Nat.le_trans hb.size hg, hs⟩, hb2⟩
set_option maxRecDepth 100000 in
set_option maxHeartbeats 8000000 in
theorem back_walk (A : Option Addr) (n c : Nat) (zs : List Int) (clock x : Int) (w : World) (hr : RdN w A n c zs) (hx : Hm x w) :
    Calls Tryd.prog 8 #[.slice A n c, .int .i64 clock] w fun e w' => e = .returned (.bool true) ∧ Below w.heap.size w w' := by
  have HF := Lib.hid (from_sg A n c zs w w hr (Below.refl _ _))
  have HX := Lib.hid fun (W : World) (hW : Below w.heap.size w W) => hx.below hW
  have HR := Lib.hid (fun W => round_any clock 9 W (by omega) (by omega))
  have HCK := Lib.hid (ck_ok clock)
  clear hr hx
  go_enter Tryd.func8, Tryd.ntmps8
  go_wp2_with fail
  go_at_call 11
  refine HF.out.mono ?_
  rintro e w1 ⟨g, rfl, hS1, hb1⟩
  go_wp2_with fail
  go_at_call 17
  refine (HR.out _).mono ?_
  rintro e wn ⟨rfl, hwn⟩
  obtain rfl := hwn.symm
  clear hwn HR HF
  go_wp2_with fail
  go_at_call 10
  refine (changes_mk w g A n c zs _ w1 hS1 HCK.out).mono ?_
  rintro e w2 ⟨A2, n2, c2, L, rfl, ho, hmc, hl1, hl2, hS2, hg2⟩
  have hb2 := hS2.b
  have HE : Hid (ecE L = 0) := Lib.hid (MC.list hmc hl1 (by omega))
  have HB := Lib.hid (ecB_yes HE.out)
  have HENC := Lib.hid (encode_any A2 n2 c2 L x w2 (OwC.rd ho) (fun a ha => cgwf_of_cv (hmc a ha).ok) (HX.out _ hb2))
  unfold REnc at HENC
  rw [HE.out, HB.out] at HENC
  have HO := Lib.hid (OwC.rd ho)
  clear hS1 hS2 hg2 hb1 ho hmc hl1 hl2
  go_wp2_with fail
  go_at_call 13
  refine HENC.out.mono ?_
  rintro e w3 ⟨A3, n3, c3, rfl, ho3, hb3⟩
  have hb03 := below_call hb2 hb3
  have HD := Lib.hid (decode_any A3 n3 c3 (encL L) x w3 ho3.rd (HX.out _ hb03))
  unfold RDec at HD
  rw [dcE_some (dc_enc HE.out), dcL_some (dc_enc HE.out)] at HD
  clear HENC ho3
  go_wp2_with fail
  go_at_call 25
  refine HD.out.mono ?_
  rintro e w4 ⟨A4, n4, c4, rfl, ho4, hb4⟩
  have hb04 := below_call hb03 hb4
  have HO4 := Lib.hid (OwC.rd ho4)
  clear HD ho4
  go_wp2_with fail
  go_at_call 14
  refine (awake_any x w4 (HX.out _ hb04)).mono ?_
  rintro e w5 ⟨rfl, hb5⟩
  have hb05 := below_call hb04 hb5
  have HSC := Lib.hid (samechanges_any A2 n2 c2 L A4 n4 c4 L w5 (RdC.below HO.out (below_call (below_call hb3 hb4) hb5)) (RdC.below HO4.out hb5))
  rw [decide_eq_true rfl] at HSC
  clear hb2 hb3 hb4 hb5 hb03 hb04
  go_wp2_with fail
  go_at_call 16
  refine HSC.out.mono ?_
  rintro e w6 ⟨rfl, hb6⟩
  have hb06 := below_call hb05 hb6
  go_wp2_with fail
  go_ret
  exact ⟨rfl, hb06⟩
set_option maxRecDepth 100000 in
set_option maxHeartbeats 8000000 in
theorem decodes_any (A : Option Addr) (n c : Nat) (b : List UInt8) (x : Int) (w : World) (hr : RdB w A n c b) (hx : Hm x w) :
    Calls Tryd.prog 24 #[.slice A n c] w fun e w' => e = .returned (.bool true) ∧ Below w.heap.size w w' := by
  have HD := Lib.hid (decode_any A n c b x w hr hx)
  have HD2 := Lib.hid fun W (hW : Below w.heap.size w W) => rdecode_any A n c b W (hr.below hW)
  unfold RDec at HD HD2
  generalize dcE b = V at *
  generalize dcL b = L at *
  clear hr hx
  go_enter Tryd.func24, Tryd.ntmps24
  go_wp2_with fail
  go_at_call 25
  refine HD.out.mono ?_
  rintro e w1 ⟨A1, n1, c1, rfl, ho1, hb1⟩
  have HO1 := Lib.hid (OwC.rd ho1)
  clear HD ho1
  go_wp2_with fail
  go_at_call 41
  refine (HD2.out _ hb1).mono ?_
  rintro e w2 ⟨A2, n2, c2, rfl, ho2, hb2⟩
  have HSC := Lib.hid (samechanges_any A1 n1 c1 L A2 n2 c2 L w2 (RdC.below HO1.out hb2) (OwC.rd ho2))
  rw [decide_eq_true rfl] at HSC
  have hb02 := below_call hb1 hb2
  clear HD2 ho2 hb1 hb2
  go_wp2_with fail
  go_at_call 16
  refine HSC.out.mono ?_
  rintro e w3 ⟨rfl, hb3⟩
  have hb03 := below_call hb02 hb3
  go_wp2_with fail
  go_ret
  exact ⟨rfl, hb03⟩

set_option maxRecDepth 100000 in
set_option maxHeartbeats 16000000 in
theorem cuts_walk (A : Option Addr) (n c : Nat) (zs : List Int) (cut : Int) (B : Option Addr) (m d : Nat) (ms : List UInt8) (x : Int) (w : World) (hr : RdN w A n c zs) (hrm : RdB w B m d ms) (hx : Hm x w) :
    Calls Tryd.prog 9 #[.slice A n c, .int .i64 cut, .slice B m d] w fun e w' => e = .returned (.bool true) ∧ Below w.heap.size w w' := by
  obtain ⟨u0, hu0, hv0, hv1, hv2⟩ := u8_parts
  have HA := Lib.hid fun (W : World) (hW : Below w.heap.size w W) => awake_any x W (hx.below hW)
  have HX := Lib.hid fun (W : World) (hW : Below w.heap.size w W) => hx.below hW
  have HML := Lib.hid hrm.len
  have HRM := Lib.hid hrm
  have HF := Lib.hid (from_sg A n c zs w w hr (Below.refl _ _))
  have hub : ∀ b : Bool, (some undef = some (Value.bool b)) = False := fun b => by simp [undef]
  have hub2 : ∀ b : Bool, (undef = Value.bool b) = False := fun b => by simp [undef]
  clear hr hrm hx
  by_cases hm : m < 1 ∨ 100 < m
  · by_cases h0 : m < 1
    · have z1 : (m : Int) < 1 := by omega
      clear hm
      go_enter Tryd.func9, Tryd.ntmps9
      go_wp2_with fail
      go_at_call 14
      refine (HA.out _ (Below.refl _ _)).mono ?_
      rintro e w1 ⟨rfl, hb1⟩
      go_wp2_with fail
      go_ret
      exact ⟨rfl, hb1⟩
    · have z1 : ¬ (m : Int) < 1 := by omega
      have z2 : (100 : Int) < (m : Int) := by omega
      clear hm
      go_enter Tryd.func9, Tryd.ntmps9
      go_wp2_with fail
      go_at_call 14
      refine (HA.out _ (Below.refl _ _)).mono ?_
      rintro e w1 ⟨rfl, hb1⟩
      go_wp2_with fail
      go_ret
      exact ⟨rfl, hb1⟩
  · have z1 : ¬ (m : Int) < 1 := by omega
    have z2 : ¬ (100 : Int) < (m : Int) := by omega
    have hm1 : 1 ≤ m ∧ m ≤ 100 := by omega
    clear hm
    go_enter Tryd.func9, Tryd.ntmps9
    go_wp2_with fail
    clear z1 z2
    go_at_call 11
    refine HF.out.mono ?_
    rintro e w1 ⟨g, rfl, hS1, hb1⟩
    go_wp2_with fail
    go_at_call 10
    refine (changes_mk w g A n c zs 0 w1 hS1 (by omega)).mono ?_
    rintro e w2 ⟨A2, n2, c2, L, rfl, ho, hmc, hl1, hl2, hS2, hg2⟩
    have hb2 := hS2.b
    have HE : Hid (ecE L = 0) := Lib.hid (MC.list hmc hl1 (by omega))
    have HB := Lib.hid (ecB_yes HE.out)
    have HENC := Lib.hid (encoded_any A2 n2 c2 L w2 (OwC.rd ho) (fun a ha => cgwf_of_cv (hmc a ha).ok))
    rw [HB.out] at HENC
    have HSM : Hid ((encL L).length ≤ 100000 ∧ 1 ≤ (encL L).length) := Lib.hid (by
      have hf := flat_small L hmc
      have q1 := nmb_len 5 L.length (by omega)
      have q2 := nmb_pos L.length
      unfold encL
      rw [List.length_append]
      omega)
    clear hS1 hS2 hg2 hb1 ho hmc hl1 hl2 HF
    go_wp2_with fail
    go_at_call 23
    refine HENC.out.mono ?_
    rintro e w3 ⟨A3, n3, c3, rfl, ho3, hb3⟩
    have hb03 := below_call hb2 hb3
    have hn3 : 1 ≤ n3 ∧ n3 ≤ 100000 := by have := HSM.out; have := ho3.len; omega
    have HO3 := Lib.hid ho3
    clear HENC ho3 hb3 hb2
    go_wp2_with fail
    go_at_call 17
    refine (round_any cut (n3 : Int) w3 (by omega) (by omega)).mono ?_
    rintro e wn ⟨rfl, hwn⟩
    obtain rfl := hwn.symm
    clear hwn
    have hk0 : 0 ≤ cut % (n3 : Int) := Int.emod_nonneg _ (by omega)
    have hk1 : cut % (n3 : Int) < (n3 : Int) := Int.emod_lt_of_pos _ (by omega)
    obtain ⟨k, hk⟩ := Int.eq_ofNat_of_zero_le hk0
    rw [hk] at hk1 ⊢
    clear hk0 hk
    obtain ⟨hrun, hrd⟩ := RdB.cutH HO3.out.rd (k : Int) k rfl (by omega)
    have HD1 := Lib.hid (decode_any A3 k c3 ((encL L).take k) x w3 hrd (HX.out _ hb03))
    have HNO : Hid (dc ((encL L).take k) = none) := Lib.hid (dc_less HE.out (by rw [← HO3.out.len]; omega))
    unfold RDec at HD1
    rw [dcE_none HNO.out, dcL_none HNO.out] at HD1
    clear hrd
    go_wp2_with fail
    go_at_call 25
    refine HD1.out.mono ?_
    rintro e w4 ⟨A4, n4, c4, rfl, ho4, hb4⟩
    obtain rfl : n4 = 0 := ho4.len
    have hb04 := below_call hb03 hb4
    have hr3 := HO3.out.rd.below hb4
    clear HD1 ho4 hrun
    go_wp2_with (at_builtin; first
      | (refine wpList_append_n _ rfl _ (.tmp 36) _ rfl w4.heap.size 5 u0 Tryd.underlying33 hu0 hv0 hv1 hv2 rfl A3 n3 c3 (encL L) rfl hr3 ?_ (Nat.le_refl _) ?_; (focus omega); intro A5 c5 w5 ho5 hg5)
      | (refine wpList_append_g _ rfl (.tmp 37) (.tmp 38) _ rfl w4.heap.size 5 u0 Tryd.underlying33 hu0 hv0 hv1 hv2 A5 n3 c5 (encL L) rfl ho5 B m d ms rfl (HRM.out.below (hb04.trans (hg5.b.mono hb04.size))) ?_ ?_ ?_; (focus omega); (focus exact hg5.b.size); intro A6 c6 w6 ho6 hg6))
    have hb06 : Below w.heap.size w w6 := (hb04.trans (hg5.b.mono hb04.size)).trans (hg6.b.mono hb04.size)
    have HNO2 : Hid (dc (encL L ++ ms) = none) := Lib.hid (dc_more HE.out (fun e => by have := HML.out; rw [e] at this; simp at this; omega))
    have HD2 := Lib.hid (decode_any A6 (n3 + m) c6 (encL L ++ ms) x w6 ho6.rd (HX.out _ hb06))
    unfold RDec at HD2
    rw [dcE_none HNO2.out, dcL_none HNO2.out] at HD2
    clear ho5 hg5 ho6 hg6 hb04 hr3
    refine HD2.out.mono ?_
    rintro e w7 ⟨A7, n7, c7, rfl, ho7, hb7⟩
    obtain rfl : n7 = 0 := ho7.len
    have hb07 := below_call hb06 hb7
    clear HD2 ho7
    go_wp2_with fail
    go_at_call 14
    refine (HA.out _ hb07).mono ?_
    rintro e w8 ⟨rfl, hb8⟩
    have hb08 := below_call hb07 hb8
    go_wp2_with fail
    go_ret
    exact ⟨rfl, hb08⟩

set_option maxRecDepth 100000 in
set_option maxHeartbeats 16000000 in
theorem chdecodes_walk (B : Option Addr) (m d : Nat) (ms : List UInt8) (A : Option Addr) (n c : Nat) (zs : List Int) (clock at' tb x : Int) (w : World) (hrm : RdB w B m d ms) (hr : RdN w A n c zs) (hx : Hm x w) :
    Calls Tryd.prog 7 #[.slice B m d, .slice A n c, .int .i64 clock, .int .i64 at', .int .i64 tb] w fun e w' => e = .returned (.bool true) ∧ Below w.heap.size w w' := by
  obtain ⟨u0, hu0, hv0, hv1, hv2⟩ := u8_parts
  have HA := Lib.hid fun (W : World) (hW : Below w.heap.size w W) => awake_any x W (hx.below hW)
  have HX := Lib.hid fun (W : World) (hW : Below w.heap.size w W) => hx.below hW
  have HRM := Lib.hid hrm
  have HF := Lib.hid (from_sg A n c zs w w hr (Below.refl _ _))
  have HR := Lib.hid (fun W => round_any clock 9 W (by omega) (by omega))
  have HCK := Lib.hid (ck_ok clock)
  have hub : ∀ b : Bool, (some undef = some (Value.bool b)) = False := fun b => by simp [undef]
  have hub2 : ∀ b : Bool, (undef = Value.bool b) = False := fun b => by simp [undef]
  clear hr hrm hx
  by_cases hm : 2000 < m
  · have z1 : (2000 : Int) < (m : Int) := by omega
    clear hm
    go_enter Tryd.func7, Tryd.ntmps7
    go_wp2_with fail
    go_at_call 14
    refine (HA.out _ (Below.refl _ _)).mono ?_
    rintro e w1 ⟨rfl, hb1⟩
    go_wp2_with fail
    go_ret
    exact ⟨rfl, hb1⟩
  · have z1 : ¬ (2000 : Int) < (m : Int) := by omega
    clear hm
    go_enter Tryd.func7, Tryd.ntmps7
    go_wp2_with fail
    clear z1
    go_at_call 11
    refine HF.out.mono ?_
    rintro e w1 ⟨g, rfl, hS1, hb1⟩
    go_wp2_with fail
    go_at_call 17
    refine (HR.out _).mono ?_
    rintro e wn ⟨rfl, hwn⟩
    obtain rfl := hwn.symm
    clear hwn HR HF
    go_wp2_with fail
    go_at_call 10
    refine (changes_mk w g A n c zs _ w1 hS1 HCK.out).mono ?_
    rintro e w2 ⟨A2, n2, c2, L, rfl, ho, hmc, hl1, hl2, hS2, hg2⟩
    have hb2 := hS2.b
    have HE : Hid (ecE L = 0) := Lib.hid (MC.list hmc hl1 (by omega))
    have HB := Lib.hid (ecB_yes HE.out)
    have HENC := Lib.hid (encoded_any A2 n2 c2 L w2 (OwC.rd ho) (fun a ha => cgwf_of_cv (hmc a ha).ok))
    rw [HB.out] at HENC
    have HSM : Hid ((encL L).length ≤ 100000 ∧ 1 ≤ (encL L).length) := Lib.hid (by
      have hf := flat_small L hmc
      have q1 := nmb_len 5 L.length (by omega)
      have q2 := nmb_pos L.length
      unfold encL
      rw [List.length_append]
      omega)
    clear hS1 hS2 hg2 hb1 ho hmc hl1 hl2
    go_wp2_with fail
    go_at_call 23
    refine HENC.out.mono ?_
    rintro e w3 ⟨A3, n3, c3, rfl, ho3, hb3⟩
    have hb03 := below_call hb2 hb3
    have hn3 : 1 ≤ n3 ∧ n3 ≤ 100000 := by have := HSM.out; have := ho3.len; omega
    have HO3 := Lib.hid ho3
    have hr3 := ho3.rd
    clear HENC ho3 hb3 hb2
    go_wp2_with (at_builtin; (refine wpList_append_n _ rfl _ (.tmp 23) _ rfl w3.heap.size 5 u0 Tryd.underlying33 hu0 hv0 hv1 hv2 rfl A3 n3 c3 (encL L) rfl hr3 ?_ (Nat.le_refl _) ?_; (focus omega); intro A5 c5 w5 ho5 hg5))
    go_at_call 17
    refine (round_any at' (n3 : Int) w5 (by omega) (by omega)).mono ?_
    rintro e wn ⟨rfl, hwn⟩
    obtain rfl := hwn.symm
    clear hwn
    have hk0 : 0 ≤ at' % (n3 : Int) := Int.emod_nonneg _ (by omega)
    have hk1 : at' % (n3 : Int) < (n3 : Int) := Int.emod_lt_of_pos _ (by omega)
    obtain ⟨k, hk⟩ := Int.eq_ofNat_of_zero_le hk0
    rw [hk] at hk1 ⊢
    clear hk0 hk
    have ho5s := ho5
    obtain ⟨b5, o5, e5, hb5, hc5⟩ := ho5.rd.opened (by omega)
    rcases ho5.own.2 with ⟨e1, e2⟩ | ⟨gb, cap, cur, hv, hbb, hh, hrest⟩
    · exfalso
      injection e1 with e1 e2 e3
      omega
    · injection hv with e1 e2 e3
      subst e1 e3
      injection e5 with e5
      injection e5 with e5 e6
      subst e5 e6
      have kc := hc5 k (by omega)
      rw [Nat.zero_add] at kc
      have kf := Blk.frozen hh k
      have HST := Lib.hid (ho5s.stored k (UInt8.ofNat (tb % 256).toNat))
      have hbv : (((UInt8.ofNat (tb % 256).toNat).toNat : Nat) : Int) = tb % 256 := by
        have q1 := Int.emod_nonneg tb (by decide : (256 : Int) ≠ 0)
        have q2 := Int.emod_lt_of_pos tb (by decide : (0 : Int) < 256)
        rw [UInt8.toNat_ofNat']
        omega
      rw [hbv] at HST
      have hbg : w.heap.size ≤ gb := Nat.le_trans hb03.size hbb
      have hne : 0 < n3 := by omega
      clear hc5 hrest ho5s
      go_upto_region 7 with fail
      have hbf : Below w.heap.size w (w5.setCell ⟨gb, k, none⟩ (.int .u8 (tb % 256))) := (hb03.trans (hg5.b.mono hb03.size)).setCell hbg _
      have HR3 := Lib.hid (hr3.below (hg5.b.setCell hbb (.int .u8 (tb % 256)) (p := ⟨gb, k, none⟩)))
      clear kc kf hh ho5 hg5 hr3 hb5
      generalize w5.setCell ⟨gb, k, none⟩ (.int .u8 (tb % 256)) = w6 at *
      go_wp2_with fail
      go_at_call 14
      refine (HA.out _ hbf).mono ?_
      rintro e w7 ⟨rfl, hb7⟩
      have hb07 := below_call hbf hb7
      go_wp2_with fail
      go_at_call 24
      refine (decodes_any B m d ms x w7 (HRM.out.below hb07) (HX.out _ hb07)).mono ?_
      rintro e w8 ⟨rfl, hb8⟩
      have hb08 := below_call hb07 hb8
      go_wp2_with fail
      go_at_call 24
      refine (decodes_any A3 n3 c3 (encL L) x w8 (HR3.out.below (below_call hb7 hb8)) (HX.out _ hb08)).mono ?_
      rintro e w9 ⟨rfl, hb9⟩
      have hb09 := below_call hb08 hb9
      go_wp2_with fail
      go_at_call 24
      refine (decodes_any _ n3 _ _ x w9 (HST.out.rd.below (below_call (below_call hb7 hb8) hb9)) (HX.out _ hb09)).mono ?_
      rintro e w10 ⟨rfl, hb10⟩
      have hb010 := below_call hb09 hb10
      go_wp2_with fail
      go_ret
      exact ⟨rfl, hb010⟩
end Go.Proofs.YtbeijpajodgpeaaDoor
