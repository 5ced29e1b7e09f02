/- The walk of change.Decode. Printed by gen_c25.py -/
import Derived.Test.YtbeijpajodgpeaaDoorC24
import Derived.Test.YtbeijpajodgpeaaDoorMW
import Derived.Test.YtbeijpajodgpeaaDoorTab
namespace Go.Proofs.YtbeijpajodgpeaaDoor
open Go.RowKit
set_option linter.unusedSimpArgs false
set_option linter.unusedVariables false

theorem cg_info : (Tryd.prog.info? 31).map (fun i => (i.zero, i.size, i.bytes)) = some (some (cval cg0 none 0 0), 10, 136) := by kernel_rfl
theorem lst_eq (l1 l2 : List UInt8) : ((⟨l1.toArray⟩ : ByteArray).toList == (⟨l2.toArray⟩ : ByteArray).toList) = decide (l1 = l2) := by
  rw [str_beq]
  exact decide_eq_decide.2 ⟨fun h => by injection h with h; simpa using h, fun h => by rw [h]⟩
theorem beq_any (A : Option Addr) (n c : Nat) (A2 : Option Addr) (n2 c2 : Nat) (l1 l2 : List UInt8) (w : World) (h1 : RdB w A n c l1) (h2 : RdB w A2 n2 c2 l2) :
    Calls Tryd.prog 44 #[.slice A n c, .slice A2 n2 c2] w fun e w' => e = .returned (.bool (decide (l1 = l2))) ∧ w' = w := by
  have cv1 := conv_rd h1
  have cv2 := conv_rd h2
  have HQ := Lib.hid (show (l1 == l2) = decide (l1 = l2) from by by_cases h : l1 = l2 <;> simp [h])
  clear h1 h2
  go_enter Tryd.func44, Tryd.ntmps44
  go_wp2_with fail
  go_ret
  exact ⟨by rw [← HQ.out]; rfl, rfl⟩
theorem OwR.grb {α : Type} {R : World → α → List Value → Prop} {sz base e n c bad g t : Nat} {w w' : World} {A : Option Addr} {L : List α} {cs : Array Value} (hS : Stay R bad) (h : OwR R sz w base e A n c L) (hg : w.grownBy w' (some g)) (hb : g < base) (hh : w.heap[g]? = some (.cells cs t (0, 0))) (ht : t ≠ bad) : OwR R sz w' base e A n c L := by
  obtain ⟨xs, h1, h2⟩ := h.own
  refine ⟨h.len, h.cap, h.max, xs, ⟨h1.1, h1.2.imp id fun ⟨q, cap, cur, a1, a2, a3, r⟩ => ⟨q, cap, cur, a1, a2, (hg.block q (Blk.lt a3) (fun e => by injection e with e; omega)).trans a3, r⟩⟩, fun k a hk => ?_⟩
  exact hS.grown w _ a _ (some g) hg (fun q hq => by injection hq with hq; subst hq; exact ⟨cs, t, hh, ht⟩) (h2 k a hk)
/-- what Decode answers -/
def RDec (w : World) (b : List UInt8) (e : Ending) (w' : World) : Prop := ∃ A n c, e = .returned (.tuple #[.slice A n c, .int .i64 (dcE b)]) ∧ OwR RCT 10 w' w.heap.size 31 A n c (dcL b) ∧ Below w.heap.size w w'
theorem Sta.start {t : Nat} {w : World} {A : Option Addr} {n c : Nat} {b : List UInt8} (h : RdB w A n c b) : Sta t w (w.alloc (.cells #[.slice A n c, .bool false] t)) w.heap.size n (some b) :=
  ⟨false, b, ⟨(Below.refl _ _).alloc (Nat.le_refl _) _, Nat.le_refl _, A, n, c, heap_new rfl, h, Nat.le_refl _⟩, fun r hr => (by injection hr with hr; exact ⟨rfl, hr⟩), fun h => (by cases h)⟩
theorem cg_fits {w : World} {a : Cg} {A : Option Addr} {n c : Nat} (h : RdR RV 6 w A n c a.hs) (ht : TyB w 67 A) : Fits RCT 10 w [a] (a.cells A n c) := Fits.one (a := a) rfl ⟨A, n, c, rfl, h, ht⟩
theorem RNil (w : World) (base : Nat) : OwR RCT 10 w base 31 none 0 0 [] := OwR.nil _ _ _ _ _

set_option maxRecDepth 100000 in
set_option maxHeartbeats 16000000 in
theorem decode_of (A : Option Addr) (n c : Nat) (b : List UInt8) (w : World) (h : RdB w A n c b)
    (HE0 : ∀ (W : World) (A : Option Addr) (n c : Nat) (L : List Cg), Below w.heap.size w W → RdR RC 10 W A n c L → (∀ a ∈ L, CgWf a) → Calls Tryd.prog 13 #[.slice A n c] W (REnc W L)) :
    Calls Tryd.prog 25 #[.slice A n c] w (RDec w b) := by
  obtain ⟨i0, hi0, hz0, hz1, hz2⟩ := info_parts cg_info
  have HENC := Lib.hid HE0
  have HB := Lib.hid h
  have HM : Hid (n ≤ maxLen) := Lib.hid (Nat.le_trans h.cap h.max)
  have hub : ∀ b : Bool, (some undef = some (Value.bool b)) = False := fun b => by simp [undef]
  have hub2 : ∀ b : Bool, (undef = Value.bool b) = False := fun b => by simp [undef]
  have hS0 := Sta.start (t := 83) h
  clear HE0 h
  go_enter Tryd.func25, Tryd.ntmps25
  go_wp2_with fail
  generalize w.alloc (.cells #[.slice A n c, .bool false] 83) = y0 at *
  go_at_call 42
  refine (numS w w.heap.size n _ y0 hS0).mono ?_
  rintro e w1 ⟨v, he, hv, hS1, hp1, hg1⟩
  obtain rfl : e = .returned (.int .i64 (v : Int)) := he
  clear hS0 hg1
  by_cases h16 : 16 < v
  · have HD := Lib.hid (dc_none_of_pL (pL_big hp1 h16))
    have HBL := Lib.hid hS1.base.2
    have z1 : (16 : Int) < (v : Int) := by omega
    clear hp1 hS1
    go_wp2_with fail
    go_ret2
    exact ⟨none, 0, 0, by rw [dcE_none HD.out]; rfl, by rw [dcL_none HD.out]; exact RNil _ _, HBL.out⟩
  · have HP0 := Lib.hid (pL_start hp1 h16)
    have z1 : ¬ (16 : Int) < (v : Int) := by omega
    clear hp1
    go_wp2_with fail
    go_loopw [6, 7] (fun a q wr => ∃ (i : Nat) (A1 : Option Addr) (n1 c1 : Nat) (L : List Cg) (si : Option (List UInt8)), i ≤ v ∧ a = .slice A1 n1 c1 ∧ q = .int .i64 i ∧ OwR RCT 10 wr (w.heap.size + 1) 31 A1 n1 c1 L ∧ n1 = i ∧ Hid (∀ a ∈ L, CgWf a) ∧ Sta 83 w wr w.heap.size n si ∧ Hid (pL b = (si.bind (pCs (v - i))).map fun b => (L ++ b.1, b.2))) (fun _ q _ => v - (intOf q).toNat)
    case atStart => exact ⟨0, none, 0, 0, [], _, Nat.zero_le _, rfl, rfl, OwR.nil _ _ _ _ _, rfl, Lib.hid (fun r hr => by cases hr), hS1, HP0⟩
    case round =>
      obtain ⟨i, A1, n1, c1, L, si, hi, rfl, rfl, ho, hni, HWF, hS, HP⟩ := hrel
      subst hni
      clear hS1 HP0 z1
      obtain ⟨Ar, nr, cr, kb⟩ := hS.cells
      have kc := Blk.cell kb
      have hgz := hS.lt
      have z0 : (0 : Int) ≤ (n1 : Int) := by omega
      obtain ⟨wq, hwq⟩ : ∃ q, q = wr := ⟨_, rfl⟩
      have HEW := Lib.hid (HENC.out wq A1 n1 c1 L (by rw [hwq]; exact hS.base.2) (by rw [hwq]; exact OwC.rd ho) HWF.out)
      rw [hwq] at HEW
      clear hwq
      cases si with
      | none =>
        have HD : Hid (dc b = none) := Lib.hid (dc_none_of_pL (by rw [HP.out]; rfl))
        have HBW := Lib.hid hS.base.2
        clear HP
        by_cases hlt : n1 < v
        · have z2 : (n1 : Int) < (v : Int) := by omega
          clear hS ho
          go_wp2_with fail
          go_at_call 13
          refine HEW.out.mono ?_
          rintro e w3 ⟨A3, n3, c3, rfl, ho3, hb3⟩
          have kc3 := Blk.cell (heap_call hb3 kb)
          have HBF := Lib.hid (below_call HBW.out hb3)
          clear kb kc ho3
          go_wp2_with fail
          go_ret2
          exact ⟨none, 0, 0, by rw [dcE_none HD.out]; rfl, by rw [dcL_none HD.out]; exact RNil _ _, HBF.out⟩
        · have z2 : ¬ (n1 : Int) < (v : Int) := by omega
          clear hS ho
          go_wp2_with fail
          go_at_call 13
          refine HEW.out.mono ?_
          rintro e w3 ⟨A3, n3, c3, rfl, ho3, hb3⟩
          have kc3 := Blk.cell (heap_call hb3 kb)
          have HBF := Lib.hid (below_call HBW.out hb3)
          clear kb kc ho3
          go_wp2_with fail
          go_ret2
          exact ⟨none, 0, 0, by rw [dcE_none HD.out]; rfl, by rw [dcL_none HD.out]; exact RNil _ _, HBF.out⟩
      | some l =>
        by_cases hlt : n1 < v
        · have z2 : (n1 : Int) < (v : Int) := by omega
          go_wp2_with fail
          go_at_call 43
          refine (rdcg_any w w.heap.size n _ wr hS HM.out).mono ?_
          rintro e w2 ⟨cg, A2, n2, c2, rfl, hrd, hty, hwf, hS2, hq2, hg2⟩
          have ho2 := OwR.grb RCT.stay ho hg2 (Nat.lt_succ_self _) kb (by decide)
          have hrz := hg2.size
          have HNX : Hid (((some l : Option (List UInt8)).bind (pCs (v - n1))).map (fun b => (L ++ b.1, b.2)) = ((((some l : Option (List UInt8)).bind pCg).map (·.2)).bind (pCs (v - (n1 + 1)))).map fun b => ((L ++ [cg]) ++ b.1, b.2)) := Lib.hid (by rw [show v - n1 = (v - (n1 + 1)) + 1 by omega]; exact pCs_next rfl hq2)
          have HWF2 : Hid (∀ r ∈ L ++ [cg], CgWf r) := Lib.hid (fun r hr => by
            rcases List.mem_append.1 hr with h | h
            · exact HWF.out r h
            · simp only [List.mem_singleton] at h
              subst h
              exact hwf)
          have HFT := Lib.hid (fun W (hW : Below w2.heap.size w2 W) => cg_fits (a := cg) (RdV.below hrd hW) (hty.below hW))
          have HS2 := Lib.hid hS2
          clear hS ho kb kc hq2 hwf hrd hty hS2 hg2 HEW
          unfold cval
          have hl4 : Below w2.heap.size w2 (w2.alloc (.cells #[.int .i64 cg.kd, .string cg.us, .string cg.nt, .int .i64 cg.ts, .string cg.tn, .int .i64 cg.os, .string cg.on, .string cg.tx, .int .i64 cg.n, .slice A2 n2 c2] 31)) := (Below.refl _ _).alloc (Nat.le_refl _) _
          have hol := ho2.call RCT.stay hl4
          clear ho2
          go_wp2_with (at_builtin; go_must (refine wpList_append_r _ rfl (.tmp 29) (.tmp 32) 23 rfl 10 136 (w.heap.size + 1) 31 i0 _ RCT.stay (by decide) Tryd.underlying23 hi0 hz0 hz1 hz2 rfl (by omega) A1 n1 c1 L rfl hol (some ⟨w2.heap.size, 0, none⟩) 1 1 rfl [cg] _ (Reads.litAt (cs := #[.int .i64 cg.kd, .string cg.us, .string cg.nt, .int .i64 cg.ts, .string cg.tn, .int .i64 cg.os, .string cg.on, .string cg.tx, .int .i64 cg.n, .slice A2 n2 c2]) rfl rfl) (HFT.out _ hl4) rfl ?_ ?_ ?_ ?_ ?_; (focus (simp [Value.oneCell'])); (focus (unfold maxLen; omega)); (focus omega); (focus (rw [size_alloc_]; omega)); intro A5 c5 w5 ho5 hg5))
          go_roundw
          case rel => exact ⟨n1 + 1, A5, n1 + 1, c5, _, _, by omega, rfl, by go_num, ho5, rfl, HWF2, (HS2.out.call hl4).own hg5.b (Nat.lt_succ_self _) (Nat.le_succ _), Lib.hid (by rw [HP.out]; exact HNX.out)⟩
          case measure => simp [intOf]; omega
        · have HPL : Hid (pL b = some (L, l)) := Lib.hid (by rw [HP.out, show v - n1 = 0 by omega]; simp [pCs])
          have HDC := Lib.hid (dc_some_of HPL.out)
          have z2 : ¬ (n1 : Int) < (v : Int) := by omega
          have HBW := Lib.hid hS.base.2
          have HO := Lib.hid ho
          clear HP hS ho
          obtain ⟨V, hV⟩ : ∃ V, V = ecE L := ⟨_, rfl⟩
          unfold REnc at HEW
          rw [← hV] at HEW
          have HV := Lib.hid hV
          clear hV
          go_wp2_with fail
          go_at_call 13
          refine HEW.out.mono ?_
          rintro e w3 ⟨A3, n3, c3, rfl, ho3, hb3⟩
          have kc3 := Blk.cell (heap_call hb3 kb)
          have HBF := Lib.hid (below_call HBW.out hb3)
          by_cases h0 : V = 0
          · subst h0
            have HLB := Lib.hid (ecB_yes HV.out.symm)
            have HQ := Lib.hid (beq_any A3 n3 c3 A n c (ecB L) b w3 ho3.rd (HB.out.below HBF.out))
            have HOF := Lib.hid (HO.out.call RCT.stay hb3)
            by_cases heq : encL L = b
            · have HDB : Hid (dc b = some L) := Lib.hid (by rw [HDC.out, if_pos ⟨HV.out.symm, heq⟩])
              rw [HLB.out, decide_eq_true heq] at HQ
              clear heq kb kc ho3
              go_wp2_with (go_at_call 44; go_must (refine HQ.out.mono ?_; rintro e w4 ⟨rfl, hw4⟩; obtain rfl := hw4.symm; clear hw4))
              go_ret2
              exact ⟨A1, n1, c1, by rw [dcE_some HDB.out]; rfl, by rw [dcL_some HDB.out]; exact HOF.out.mono (Nat.le_succ _), HBF.out⟩
            · have HDB : Hid (dc b = none) := Lib.hid (by rw [HDC.out, if_neg (fun hh => heq hh.2)])
              rw [HLB.out, decide_eq_false heq] at HQ
              clear heq kb kc ho3
              go_wp2_with (go_at_call 44; go_must (refine HQ.out.mono ?_; rintro e w4 ⟨rfl, hw4⟩; obtain rfl := hw4.symm; clear hw4))
              go_ret2
              exact ⟨none, 0, 0, by rw [dcE_none HDB.out]; rfl, by rw [dcL_none HDB.out]; exact RNil _ _, HBF.out⟩
          · have HDB : Hid (dc b = none) := Lib.hid (by rw [HDC.out, if_neg (fun hh => h0 (HV.out.trans hh.1))])
            have q1 : (V != 0) = true := by simpa using h0
            have q2 : (V == 0) = false := by simpa using h0
            clear kb kc ho3 h0
            go_wp2_with fail
            go_ret2
            exact ⟨none, 0, 0, by rw [dcE_none HDB.out]; rfl, by rw [dcL_none HDB.out]; exact RNil _ _, HBF.out⟩
end Go.Proofs.YtbeijpajodgpeaaDoor
