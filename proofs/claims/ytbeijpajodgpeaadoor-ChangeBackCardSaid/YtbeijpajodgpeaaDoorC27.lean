/- The walk of the reference's Decode. Printed by gen_c27.py -/
import Derived.Test.YtbeijpajodgpeaaDoorC25
import Derived.Test.YtbeijpajodgpeaaDoorC26
namespace Go.Proofs.YtbeijpajodgpeaaDoor
open Go.RowKit
set_option linter.unusedSimpArgs false
set_option linter.unusedVariables false

/-- what has been read so far: it is right, or there is nothing to be read -/
def DSo (b : List UInt8) (v i : Nat) (L : List Cg) (si : Option (List UInt8)) : Prop := (v ≤ 16 ∧ pL b = (si.bind (pCs (v - i))).map fun b => (L ++ b.1, b.2)) ∨ (pL b = none ∧ (si = none ∨ 16 < v ∨ ∃ c ∈ L, cv c ≠ 0))
theorem DSo.start {b : List UInt8} {v : Nat} (h : ∀ q, (some b : Option (List UInt8)).bind pNum = some q → v = q.1) : DSo b v 0 [] (((some b : Option (List UInt8)).bind pNum).map (·.2)) := by
  by_cases hv : 16 < v
  · exact .inr ⟨pL_big h hv, .inr (.inl hv)⟩
  · exact .inl ⟨by omega, pL_start h hv⟩
theorem DSo.next {b l : List UInt8} {v i : Nat} {L : List Cg} {c : Cg} {s' : Option (List UInt8)} (h : DSo b v i L (some l)) (hi : i < v)
    (hc : (s' = ((some l : Option (List UInt8)).bind pCg).map (·.2) ∧ ∀ q, (some l : Option (List UInt8)).bind pCg = some q → c = q.1) ∨ ((some l : Option (List UInt8)).bind pCg = none ∧ cv c ≠ 0)) : DSo b v (i + 1) (L ++ [c]) s' := by
  rcases h with ⟨h1, h2⟩ | ⟨h1, h2⟩
  · rw [show v - i = (v - (i + 1)) + 1 by omega] at h2
    rcases hc with ⟨e, hq⟩ | ⟨e, hq⟩
    · exact .inl ⟨h1, by rw [h2]; exact pCs_next e hq⟩
    · exact .inr ⟨by rw [h2, pCs_fail e]; rfl, .inr (.inr ⟨c, by simp, hq⟩)⟩
  · refine .inr ⟨h1, ?_⟩
    rcases h2 with e | e | ⟨d, hd, hn⟩
    · cases e
    · exact .inr (.inl e)
    · exact .inr (.inr ⟨d, by simp [hd], hn⟩)
theorem DSo.bad {b : List UInt8} {v i : Nat} {L : List Cg} (h : DSo b v i L none) : dc b = none := by
  rcases h with ⟨h1, h2⟩ | ⟨h1, h2⟩
  · exact dc_none_of_pL (by rw [h2]; rfl)
  · exact dc_none_of_pL h1
theorem DSo.fin {b l : List UInt8} {v i : Nat} {L : List Cg} (h : DSo b v i L (some l)) (hi : i ≤ v) (hl : L.length = i) (h17 : i ≤ 17) (hE : i = v ∨ i = 17) : dc b = if ecE L = 0 ∧ encL L = b then some L else none := by
  rcases h with ⟨h1, h2⟩ | ⟨h1, h2⟩
  · have : i = v := by omega
    subst this
    exact dc_some_of (l := l) (by rw [h2, Nat.sub_self]; simp [pCs])
  · rw [dc_none_of_pL h1, if_neg]
    rintro ⟨e, _⟩
    rcases h2 with q | q | q
    · cases q
    · rw [ecE_len (.inr (by omega))] at e; cases e
    · exact ecE_doomed q e

set_option maxRecDepth 100000 in
set_option maxHeartbeats 16000000 in
theorem rdecode_of (A : Option Addr) (n c : Nat) (b : List UInt8) (w : World) (h : RdB w A n c b)
    (HE0 : ∀ (W : World) (A : Option Addr) (n c : Nat) (L : List Cg), Below w.heap.size w W → RdR RC 10 W A n c L → (∀ a ∈ L, CgWf a) → Calls Tryd.prog 40 #[.slice A n c] W (REnc W L)) :
    Calls Tryd.prog 41 #[.slice A n c] w (RDec w b) := by
  obtain ⟨i0, hi0, hz0, hz1, hz2⟩ := info_parts cg_info
  have HENC := Lib.hid HE0
  have HB := Lib.hid h
  have HM : Hid (n ≤ maxLen) := Lib.hid (Nat.le_trans h.cap h.max)
  have hub : ∀ b : Bool, (some undef = some (Value.bool b)) = False := fun b => by simp [undef]
  have hub2 : ∀ b : Bool, (undef = Value.bool b) = False := fun b => by simp [undef]
  have hS0 := Sta.start (t := 98) h
  clear HE0 h
  go_enter Tryd.func41, Tryd.ntmps41
  go_wp2_with fail
  generalize w.alloc (.cells #[.slice A n c, .bool false] 98) = y0 at *
  go_at_call 59
  refine (rnumS w w.heap.size n _ y0 hS0).mono ?_
  rintro e w1 ⟨v, he, hv, hS1, hp1, hg1⟩
  obtain rfl : e = .returned (.int .i64 (v : Int)) := he
  clear hS0 hg1
  have HP0 := Lib.hid (DSo.start hp1)
  clear hp1
  go_wp2_with fail
  go_loopw [6, 7] (fun a q wr => ∃ (i : Nat) (A1 : Option Addr) (n1 c1 : Nat) (L : List Cg) (si : Option (List UInt8)), i ≤ v ∧ i ≤ 17 ∧ a = .slice A1 n1 c1 ∧ q = .int .i64 i ∧ OwR RCT 10 wr (w.heap.size + 1) 31 A1 n1 c1 L ∧ n1 = i ∧ Hid (∀ a ∈ L, CgWf a) ∧ Sta 98 w wr w.heap.size n si ∧ Hid (DSo b v i L si)) (fun _ q _ => 17 - (intOf q).toNat)
  case atStart => exact ⟨0, none, 0, 0, [], _, Nat.zero_le _, Nat.zero_le _, rfl, rfl, OwR.nil _ _ _ _ _, rfl, Lib.hid (fun r hr => by cases hr), hS1, HP0⟩
  case round =>
    obtain ⟨i, A1, n1, c1, L, si, hi, hi17, rfl, rfl, ho, hni, HWF, hS, HP⟩ := hrel
    subst hni
    clear hS1 HP0
    obtain ⟨Ar, nr, cr, kb⟩ := hS.cells
    have kc := Blk.cell kb
    have hgz := hS.lt
    have z0 : (0 : Int) ≤ (n1 : Int) := by omega
    obtain ⟨wq, hwq⟩ : ∃ q, q = wr := ⟨_, rfl⟩
    have HEW := Lib.hid (HENC.out wq A1 n1 c1 L (by rw [hwq]; exact hS.base.2) (by rw [hwq]; exact OwC.rd ho) HWF.out)
    rw [hwq] at HEW
    clear hwq
    cases si with
    | none =>
      have HD : Hid (dc b = none) := Lib.hid HP.out.bad
      have HBW := Lib.hid hS.base.2
      clear HP
      by_cases hlt : n1 < v
      · by_cases h17 : n1 < 17
        · have z2 : (n1 : Int) < (v : Int) := by omega
          have z3 : (n1 : Int) < 17 := by omega
          clear hS ho
          go_wp2_with fail
          go_at_call 40
          refine HEW.out.mono ?_
          rintro e w3 ⟨A3, n3, c3, rfl, ho3, hb3⟩
          have kc3 := Blk.cell (heap_call hb3 kb)
          have HBF := Lib.hid (below_call HBW.out hb3)
          clear kb kc ho3
          go_wp2_with fail
          go_ret2
          exact ⟨none, 0, 0, by rw [dcE_none HD.out]; rfl, by rw [dcL_none HD.out]; exact RNil _ _, HBF.out⟩
        · have z2 : (n1 : Int) < (v : Int) := by omega
          have z3 : ¬ (n1 : Int) < 17 := by omega
          clear hS ho
          go_wp2_with fail
          go_at_call 40
          refine HEW.out.mono ?_
          rintro e w3 ⟨A3, n3, c3, rfl, ho3, hb3⟩
          have kc3 := Blk.cell (heap_call hb3 kb)
          have HBF := Lib.hid (below_call HBW.out hb3)
          clear kb kc ho3
          go_wp2_with fail
          go_ret2
          exact ⟨none, 0, 0, by rw [dcE_none HD.out]; rfl, by rw [dcL_none HD.out]; exact RNil _ _, HBF.out⟩
      · have z2 : ¬ (n1 : Int) < (v : Int) := by omega
        clear hS ho
        go_wp2_with fail
        go_at_call 40
        refine HEW.out.mono ?_
        rintro e w3 ⟨A3, n3, c3, rfl, ho3, hb3⟩
        have kc3 := Blk.cell (heap_call hb3 kb)
        have HBF := Lib.hid (below_call HBW.out hb3)
        clear kb kc ho3
        go_wp2_with fail
        go_ret2
        exact ⟨none, 0, 0, by rw [dcE_none HD.out]; rfl, by rw [dcL_none HD.out]; exact RNil _ _, HBF.out⟩
    | some l =>
      have HLL := Lib.hid ho.len.symm
      by_cases hlt : n1 < v
      · by_cases h17 : n1 < 17
        · have z2 : (n1 : Int) < (v : Int) := by omega
          have z3 : (n1 : Int) < 17 := by omega
          go_wp2_with fail
          go_at_call 60
          refine (rrdcg_any w w.heap.size n _ wr hS HM.out).mono ?_
          rintro e w2 ⟨cg, A2, n2, c2, s2, rfl, hrd, hty, hwf, hS2, hq2, hg2⟩
          have ho2 := OwR.grb RCT.stay ho hg2 (Nat.lt_succ_self _) kb (by decide)
          have hrz := hg2.size
          have HNX := Lib.hid (HP.out.next hlt hq2)
          have HWF2 : Hid (∀ r ∈ L ++ [cg], CgWf r) := Lib.hid (fun r hr => by
            rcases List.mem_append.1 hr with h | h
            · exact HWF.out r h
            · simp only [List.mem_singleton] at h
              subst h
              exact hwf)
          have HFT := Lib.hid (fun W (hW : Below w2.heap.size w2 W) => cg_fits (a := cg) (RdV.below hrd hW) (hty.below hW))
          have HS2 := Lib.hid hS2
          clear hS ho kb kc hq2 hwf hrd hty hS2 hg2 HEW
          unfold cval
          have hl4 : Below w2.heap.size w2 (w2.alloc (.cells #[.int .i64 cg.kd, .string cg.us, .string cg.nt, .int .i64 cg.ts, .string cg.tn, .int .i64 cg.os, .string cg.on, .string cg.tx, .int .i64 cg.n, .slice A2 n2 c2] 31)) := (Below.refl _ _).alloc (Nat.le_refl _) _
          have hol := ho2.call RCT.stay hl4
          clear ho2
          go_wp2_with (at_builtin; go_must (refine wpList_append_r _ rfl (.tmp 31) (.tmp 34) 23 rfl 10 136 (w.heap.size + 1) 31 i0 _ RCT.stay (by decide) Tryd.underlying23 hi0 hz0 hz1 hz2 rfl (by omega) A1 n1 c1 L rfl hol (some ⟨w2.heap.size, 0, none⟩) 1 1 rfl [cg] _ (Reads.litAt (cs := #[.int .i64 cg.kd, .string cg.us, .string cg.nt, .int .i64 cg.ts, .string cg.tn, .int .i64 cg.os, .string cg.on, .string cg.tx, .int .i64 cg.n, .slice A2 n2 c2]) rfl rfl) (HFT.out _ hl4) rfl ?_ ?_ ?_ ?_ ?_; (focus (simp [Value.oneCell'])); (focus (unfold maxLen; omega)); (focus omega); (focus (rw [size_alloc_]; omega)); intro A5 c5 w5 ho5 hg5))
          go_roundw
          case rel => exact ⟨n1 + 1, A5, n1 + 1, c5, _, _, by omega, by omega, rfl, by go_num, ho5, rfl, HWF2, (HS2.out.call hl4).own hg5.b (Nat.lt_succ_self _) (Nat.le_succ _), HNX⟩
          case measure => simp [intOf]; omega
        · have HDC := Lib.hid (HP.out.fin hi HLL.out hi17 (.inr (by omega)))
          have z2 : (n1 : Int) < (v : Int) := by omega
          have z3 : ¬ (n1 : Int) < 17 := by omega
          have HBW := Lib.hid hS.base.2
          have HO := Lib.hid ho
          clear HP hS ho
          obtain ⟨V, hV⟩ : ∃ V, V = ecE L := ⟨_, rfl⟩
          unfold REnc at HEW
          rw [← hV] at HEW
          have HV := Lib.hid hV
          clear hV
          go_wp2_with fail
          go_at_call 40
          refine HEW.out.mono ?_
          rintro e w3 ⟨A3, n3, c3, rfl, ho3, hb3⟩
          have kc3 := Blk.cell (heap_call hb3 kb)
          have HBF := Lib.hid (below_call HBW.out hb3)
          by_cases h0 : V = 0
          · subst h0
            have HLB := Lib.hid (ecB_yes HV.out.symm)
            have cv1 := conv_rd ho3.rd
            rw [HLB.out] at cv1
            have cv2 := conv_rd (HB.out.below HBF.out)
            have HOF := Lib.hid (HO.out.call RCT.stay hb3)
            by_cases heq : encL L = b
            · have HDB : Hid (dc b = some L) := Lib.hid (by rw [HDC.out, if_pos ⟨HV.out.symm, heq⟩])
              have qe : (encL L != b) = false := by simpa using heq
              have qf : (encL L == b) = true := by simpa using heq
              clear heq kb kc ho3
              go_wp2_with fail
              go_ret2
              exact ⟨A1, n1, c1, by rw [dcE_some HDB.out]; rfl, by rw [dcL_some HDB.out]; exact HOF.out.mono (Nat.le_succ _), HBF.out⟩
            · have HDB : Hid (dc b = none) := Lib.hid (by rw [HDC.out, if_neg (fun hh => heq hh.2)])
              have qe : (encL L != b) = true := by simpa using heq
              have qf : (encL L == b) = false := by simpa using heq
              clear heq kb kc ho3
              go_wp2_with fail
              go_ret2
              exact ⟨none, 0, 0, by rw [dcE_none HDB.out]; rfl, by rw [dcL_none HDB.out]; exact RNil _ _, HBF.out⟩
          · have HDB : Hid (dc b = none) := Lib.hid (by rw [HDC.out, if_neg (fun hh => h0 (HV.out.trans hh.1))])
            have q1 : (V != 0) = true := by simpa using h0
            have q2 : (V == 0) = false := by simpa using h0
            clear kb kc ho3 h0
            go_wp2_with fail
            go_ret2
            exact ⟨none, 0, 0, by rw [dcE_none HDB.out]; rfl, by rw [dcL_none HDB.out]; exact RNil _ _, HBF.out⟩
      · have HDC := Lib.hid (HP.out.fin hi HLL.out hi17 (.inl (by omega)))
        have z2 : ¬ (n1 : Int) < (v : Int) := by omega
        have HBW := Lib.hid hS.base.2
        have HO := Lib.hid ho
        clear HP hS ho
        obtain ⟨V, hV⟩ : ∃ V, V = ecE L := ⟨_, rfl⟩
        unfold REnc at HEW
        rw [← hV] at HEW
        have HV := Lib.hid hV
        clear hV
        go_wp2_with fail
        go_at_call 40
        refine HEW.out.mono ?_
        rintro e w3 ⟨A3, n3, c3, rfl, ho3, hb3⟩
        have kc3 := Blk.cell (heap_call hb3 kb)
        have HBF := Lib.hid (below_call HBW.out hb3)
        by_cases h0 : V = 0
        · subst h0
          have HLB := Lib.hid (ecB_yes HV.out.symm)
          have cv1 := conv_rd ho3.rd
          rw [HLB.out] at cv1
          have cv2 := conv_rd (HB.out.below HBF.out)
          have HOF := Lib.hid (HO.out.call RCT.stay hb3)
          by_cases heq : encL L = b
          · have HDB : Hid (dc b = some L) := Lib.hid (by rw [HDC.out, if_pos ⟨HV.out.symm, heq⟩])
            have qe : (encL L != b) = false := by simpa using heq
            have qf : (encL L == b) = true := by simpa using heq
            clear heq kb kc ho3
            go_wp2_with fail
            go_ret2
            exact ⟨A1, n1, c1, by rw [dcE_some HDB.out]; rfl, by rw [dcL_some HDB.out]; exact HOF.out.mono (Nat.le_succ _), HBF.out⟩
          · have HDB : Hid (dc b = none) := Lib.hid (by rw [HDC.out, if_neg (fun hh => heq hh.2)])
            have qe : (encL L != b) = true := by simpa using heq
            have qf : (encL L == b) = false := by simpa using heq
            clear heq kb kc ho3
            go_wp2_with fail
            go_ret2
            exact ⟨none, 0, 0, by rw [dcE_none HDB.out]; rfl, by rw [dcL_none HDB.out]; exact RNil _ _, HBF.out⟩
        · have HDB : Hid (dc b = none) := Lib.hid (by rw [HDC.out, if_neg (fun hh => h0 (HV.out.trans hh.1))])
          have q1 : (V != 0) = true := by simpa using h0
          have q2 : (V == 0) = false := by simpa using h0
          clear kb kc ho3 h0
          go_wp2_with fail
          go_ret2
          exact ⟨none, 0, 0, by rw [dcE_none HDB.out]; rfl, by rw [dcL_none HDB.out]; exact RNil _ _, HBF.out⟩
end Go.Proofs.YtbeijpajodgpeaaDoor
