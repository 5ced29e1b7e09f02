/- slices.Equal of rows of strings; parts of a row; the walk of Apply. -/
import Derived.Test.YtakbpdlfgjfbeaaDoorD14
import Derived.Test.YtakbpdlfgjfbeaaDoorD15
import Derived.Test.YtakbpdlfgjfbeaaDoorDP6
import Derived.Test.YtakbpdlfgjfbeaaDoorSB
namespace Go.Proofs.YtakbpdlfgjfbeaaDoor
open Go.RowKit
set_option linter.unusedSimpArgs false
set_option linter.unusedVariables false

theorem RdS.cutH {P : Program} {t : TypeId} {w : World} {A : Option Addr} {n c : Nat} {l : List ByteArray} (h : RdR RS 1 w A n c l) (ht : P.underlying t = some (.slice (P.elem t))) (hz : ∀ W : World, (sizeOf (P.elem t)).run P W = .ok 1 W)
    (HI : Int) (ln : Nat) (hhi : HI = (ln : Int)) (h2 : ln ≤ n) :
    (∀ W : World, (Instr.slice t (.slice A n c) none (some (.int .i64 HI)) none).run P W = .ok (.slice A ln c) W) ∧ RdR RS 1 w A ln c (l.take ln) := by
  subst hhi
  have hcap := h.cap
  have hln := h.len
  obtain ⟨xs, h1, h3⟩ := h.reads
  refine ⟨fun W => ?_, ?_⟩
  · rw [run_slice_h W t A n c ht .i64 ln (by omega) (by omega)]
    have e : (if c = 0 then A else A.map (·.add 0)) = A := by
      split
      · rfl
      · cases A <;> simp [Addr.add]
    simp [hz, Result.andThen, sliced, Addr.add]
  · refine ⟨by rw [List.length_take]; omega, by omega, h.max, xs.take ln, ⟨by rw [List.length_take, h1.1]; omega, fun h0 => ?_⟩, ?_⟩
    · obtain ⟨ad, e, hb, hcell⟩ := h1.2 (by omega)
      refine ⟨ad, e, hb, fun j u hu => hcell j u ?_⟩
      rw [List.getElem?_take] at hu
      split at hu
      · exact hu
      · cases hu
    · intro k a hk
      rw [List.getElem?_take] at hk
      split at hk
      · have h4 : (xs.drop (k * 1)).take 1 = [.string a] := h3 _ a hk
        show _ = _
        rw [Nat.mul_one] at h4 ⊢
        rw [List.drop_take, List.take_take, show min 1 (ln - k) = 1 by omega]
        exact h4
      · cases hk
theorem RdS.cutL {P : Program} {t : TypeId} {w : World} {A : Option Addr} {n c : Nat} {l : List ByteArray} (h : RdR RS 1 w A n c l) (ht : P.underlying t = some (.slice (P.elem t))) (hz : ∀ W : World, (sizeOf (P.elem t)).run P W = .ok 1 W)
    (LO : Int) (lo : Nat) (hlo : LO = lo) (h2 : lo ≤ n) :
    ∃ A', (∀ W : World, (Instr.slice t (.slice A n c) (some (.int .i64 LO)) none none).run P W = .ok (.slice A' (n - lo) (c - lo)) W) ∧ RdR RS 1 w A' (n - lo) (c - lo) (l.drop lo) := by
  subst hlo
  have hcap := h.cap
  have hln := h.len
  obtain ⟨xs, h1, h3⟩ := h.reads
  refine ⟨if c = lo then A else A.map (·.add lo), fun W => ?_, ?_⟩
  · rw [run_slice_l W t A n c ht .i64 lo (by omega) (by omega)]
    simp [hz, Result.andThen, sliced]
  · refine ⟨by rw [List.length_drop]; omega, by omega, by have := h.max; omega, xs.drop lo, ?_, ?_⟩
    · have hc := Reads.cut h1 (k := lo) (cap := c) (by omega) hcap
      rw [Nat.mul_one] at hc
      exact hc
    · intro k a hk
      rw [List.getElem?_drop] at hk
      have h4 : (xs.drop ((lo + k) * 1)).take 1 = [.string a] := h3 _ a hk
      show _ = _
      rw [Nat.mul_one] at h4 ⊢
      rw [List.drop_drop]
      exact h4
theorem equal_any (A : Option Addr) (n c : Nat) (A2 : Option Addr) (n2 c2 : Nat) (X Y : List ByteArray) (w : World) (h1 : RdR RS 1 w A n c X) (h2 : RdR RS 1 w A2 n2 c2 Y) :
    Calls Tryd.prog 42 #[.slice A n c, .slice A2 n2 c2] w fun e w' => e = .returned (.bool (decide (X = Y))) ∧ ∃ q, w' = w.drewN q := by
  have m1 : n ≤ maxLen := Nat.le_trans h1.cap h1.max
  have m2 : n2 ≤ maxLen := Nat.le_trans h2.cap h2.max
  unfold maxLen at m1 m2
  have l1 := h1.len
  have l2 := h2.len
  by_cases hn : n = n2
  · subst hn
    rcases Nat.eq_zero_or_pos n with h0 | h0
    · subst h0
      have hX : X = [] := List.eq_nil_of_length_eq_zero l1.symm
      have hY : Y = [] := List.eq_nil_of_length_eq_zero l2.symm
      refine (Tryd.slices_Equal_string_empty A A2 c 0 c2 w (by omega)).mono ?_
      rintro e w' ⟨rfl, rfl⟩
      exact ⟨by rw [hX, hY]; rfl, 0, rfl⟩
    · obtain ⟨b1, o1, rfl, hb1, hc1⟩ := RdS.opened h1 h0
      obtain ⟨b2, o2, rfl, hb2, hc2⟩ := RdS.opened h2 h0
      have := Tryd.slices_Equal_string b1 o1 n c b2 o2 n c2 X Y w (by omega) (by omega) (by omega) (by omega) (fun j hj => hc1 j (by omega)) (fun j hj => hc2 j (by omega))
      rwa [List.take_of_length_le (by omega), List.take_of_length_le (by omega)] at this
  · refine (Tryd.slices_Equal_string_lens A A2 n c n2 c2 w hn).mono ?_
    rintro e w' ⟨rfl, rfl⟩
    have : X ≠ Y := fun e => hn (by rw [l1, l2, e])
    exact ⟨by rw [decide_eq_false this], 0, rfl⟩

theorem cat_take_le (E : List Ed) (i j : Nat) {e : Ed} (he : E[i]? = some e) (h2 : e.1 ≠ 2) : (cat (dstE (E.take i) ++ e.2.take j)).size ≤ (cat (dstE E)).size := by
  rw [dstE_split i E, drop_get he, dstE_cons, if_neg h2, cat_size_append, cat_size_append, cat_size_append]
  have : (cat (e.2.take j)).size ≤ (cat e.2).size := by
    conv => rhs; rw [← List.take_append_drop j e.2]
    rw [cat_size_append]; omega
  omega

set_option maxRecDepth 100000 in
set_option maxHeartbeats 8000000 in
theorem apply_any (s : ByteArray) (A : Option Addr) (n c : Nat) (E : List Ed) (m : Int) (w : World) (hm : w.cell? ⟨0, 0, none⟩ = some (.int .i64 m)) (hs : s.size ≤ 4294967280) (hE : RdR RE 2 w A n c E) (hn : n ≤ 100000) (hcat : (cat (dstE E)).size ≤ 1099511627776) :
    Calls Tryd.prog 25 #[.string s, .slice A n c] w fun e w' => e = .returned (apV (LN s) E) ∧ Below w.heap.size w w' := by
  have HLN := Lib.hid (dlines_n s (LN s).length (LN s) m rfl rfl hs w hm)
  have hln : (LN s).length ≤ 4294967280 := Nat.le_trans (LN_length s) hs
  have HE := Lib.hid hE
  have HC := Lib.hid hcat
  have HN := Lib.hid hE.len
  clear hm hcat hE
  generalize LN s = X at *
  go_enter Tryd.func25, Tryd.ntmps25
  go_wp2_with fail
  go_at_call 16
  refine HLN.out.mono ?_
  rintro e w1 ⟨A1, c1, rfl, hx1, -, hb1⟩
  have HX := Lib.hid hx1
  have HE1 := Lib.hid (RdE.below HE.out hb1)
  clear hx1 HLN HE
  go_wp2_with fail
  go_loopw [6, 17] (fun v6 v17 wr => ∃ (i : Nat) (R : List ByteArray) (Al : Option Addr) (nl cl : Nat), i ≤ n ∧ v17 = .int .i64 i ∧ v6 = .slice Al nl cl ∧ RdR RS 1 w1 Al nl cl R ∧ nl ≤ 4294967280 ∧ Hid (Sofar X E i R) ∧ SB w1.heap.size w1.heap.size (cat (dstE (E.take i))) wr ∧ Below w1.heap.size w1 wr) (fun _ v17 _ => n - (intOf v17).toNat)
  case atStart => exact ⟨0, X, A1, X.length, c1, Nat.zero_le _, rfl, rfl, HX.out, hln, Lib.hid (Sofar.start X E), by rw [List.take_zero]; exact sb_new w1, (Below.refl _ _).alloc (Nat.le_refl _) _⟩
  case round =>
    obtain ⟨i, R, Al, nl, cl, hi, rfl, rfl, hR, hnl, HSO, hsb, hbw⟩ := hrel
    have hbsz := hbw.size
    by_cases hlt : i < n
    · obtain ⟨b1, o1, k1, L1, B1, m1, d1, rfl, hb1', hE1, hk1, hs1, hr1⟩ := RdE.at_ HE1.out hlt
      have cc1 := (hbw.cell (p := ⟨b1, o1 + i * 2, none⟩) hb1').trans hk1
      have cc2 := (hbw.cell (p := ⟨b1, o1 + i * 2 + 1, none⟩) hb1').trans hs1
      have p1 : (i : Int) < (n : Int) := by omega
      have p2 : (0 : Int) ≤ (i : Int) := by omega
      have hmm : m1 ≤ maxLen := Nat.le_trans hr1.cap hr1.max
      unfold maxLen at hmm
      have HE2 := Lib.hid hE1
      have HR1 := Lib.hid hr1
      have HRL := Lib.hid hR
      clear hE1 hk1 hs1 hr1 hR
      by_cases hlo : k1 < 1
      · have d1' : decide (k1 < 1) = true := decide_eq_true hlo
        have HV : Hid (apV X E = _) := Lib.hid (apV_no (Sofar.bad HE2.out (Or.inl hlo)))
        go_wp2_with fail
        go_ret2
        exact ⟨(by rw [HV.out]; try rfl), below_call hb1 (hbw.alloc hbsz _)⟩
      · have d1' : decide (k1 < 1) = false := decide_eq_false hlo
        by_cases hhi : 3 < k1
        · have d2' : decide (3 < k1) = true := decide_eq_true hhi
          have HV : Hid (apV X E = _) := Lib.hid (apV_no (Sofar.bad HE2.out (Or.inr hhi)))
          go_wp2_with fail
          go_ret2
          exact ⟨(by rw [HV.out]; try rfl), below_call hb1 (hbw.alloc hbsz _)⟩
        · have d2' : decide (3 < k1) = false := decide_eq_false hhi
          by_cases h3 : k1 = 3
          · subst h3
            have HSO2 : Hid (Sofar X E (i + 1) R) := Lib.hid (HSO.out.skip HE2.out rfl)
            have HK2 : Hid ((3 : Int) ≠ 2) := Lib.hid (by decide)
            have hb2 := hbw.alloc hbsz (.cells #[.int .i64 3, .slice B1 m1 d1] 32)
            have hsb2 := hsb.below ((Below.refl wr.heap.size wr).alloc (Nat.le_refl _) (.cells #[.int .i64 3, .slice B1 m1 d1] 32))
            go_wp2_with fail
            go_loopw [57] (fun v57 wr => ∃ j : Nat, j ≤ m1 ∧ v57 = .int .i64 j ∧ SB w1.heap.size w1.heap.size (cat (dstE (E.take i) ++ L1.take j)) wr ∧ Below w1.heap.size w1 wr) (fun v57 _ => m1 - (intOf v57).toNat)
            case atStart => exact ⟨0, Nat.zero_le _, rfl, by rw [List.take_zero, List.append_nil]; exact hsb2, hb2⟩
            case round =>
              obtain ⟨j, hj, rfl, hsb3, hb3⟩ := hrel
              have hb3z := hb3.size
              by_cases hlt2 : j < m1
              · obtain ⟨bx, ox, rfl, hbx, hcx⟩ := RdS.opened HR1.out (by omega)
                have cx := (hb3.cell (p := ⟨bx, ox + j, none⟩) hbx).trans (hcx j hlt2)
                have p3 : (j : Int) < (m1 : Int) := by omega
                have p4 : (0 : Int) ≤ (j : Int) := by omega
                have hjl : j < L1.length := by have := HR1.out.len; omega
                have HSN : Hid (cat (dstE (E.take i) ++ L1.take (j + 1)) = cat (dstE (E.take i) ++ L1.take j) ++ L1.getD j BE) := Lib.hid (by
                  rw [List.take_succ_eq_append_getElem hjl, ← List.append_assoc, cat_snoc, getD_lt hjl])
                have hle := cat_take_le E i (j + 1) HE2.out HK2.out
                have hle2 := HC.out
                have hsum : (cat (dstE (E.take i) ++ L1.take j)).size + (L1.getD j BE).size ≤ 140737488355328 := by
                  have h5 := congrArg ByteArray.size HSN.out
                  rw [ByteArray.size_append] at h5
                  have h6 : (cat (dstE (E.take i) ++ L1.take (j + 1))).size ≤ (cat (dstE E)).size := hle
                  omega
                have HWS := Lib.hid (ws_any w1.heap.size w1.heap.size _ (L1.getD j BE) wr hsb3 hsum hb3z)
                clear hcx hle hle2 hsum hsb3
                generalize L1.getD j ByteArray.empty = x at *
                go_wp2_with fail
                go_at_call 40
                refine HWS.out.mono ?_
                rintro e w7 ⟨rfl, hsb7, hb7⟩
                go_wp2_with fail
                go_roundw
                case rel => exact ⟨j + 1, by omega, by go_num, by rw [HSN.out]; exact hsb7, hb3.trans hb7⟩
                case measure => (simp [intOf]; try omega)
              · obtain rfl : m1 = j := by omega
                have p3 : (m1 : Int) ≤ (m1 : Int) := by omega
                have HDS : Hid (dstE (E.take (i + 1)) = dstE (E.take i) ++ L1.take m1) := Lib.hid (by
                  have h9 : L1.take m1 = L1 := List.take_of_length_le (by rw [HR1.out.len]; exact Nat.le_refl _)
                  rw [dstE_snoc HE2.out, if_neg HK2.out, h9])
                go_wp2_with fail
                go_roundw
                case rel => exact ⟨i + 1, R, Al, nl, cl, by omega, by go_num, rfl, HRL.out, by omega, HSO2, by rw [HDS.out]; exact hsb3, hb3⟩
                case measure => (simp [intOf]; try omega)
          · have dk3 : (k1 != 3) = true := by rw [bne_iff_ne]; exact h3
            have q5 : (0 : Int) ≤ (m1 : Int) := by omega
            by_cases hml : m1 ≤ nl
            · have dml : decide ((nl : Int) < (m1 : Int)) = false := decide_eq_false (by omega)
              have dml2 : decide (nl < m1) = false := decide_eq_false (by omega)
              have q6 : (m1 : Int) ≤ (nl : Int) := by omega
              obtain ⟨hcut, hRc⟩ := RdS.cutH (P := Tryd.prog) (t := 30) HRL.out Tryd.underlying30 (fun W => by kernel_rfl) (m1 : Int) m1 rfl hml
              obtain ⟨Ar, hcut2, hRd⟩ := RdS.cutL (P := Tryd.prog) (t := 30) HRL.out Tryd.underlying30 (fun W => by kernel_rfl) (m1 : Int) m1 rfl hml
              have HRD := Lib.hid hRd
              have HEQ := Lib.hid fun q => equal_any Al m1 cl B1 m1 d1 (R.take m1) L1 ((wr.alloc (.cells #[.int .i64 k1, .slice B1 m1 d1] 32)).drewN q) (hRc.below RS.stay (below_drewN (hbw.alloc hbsz _) q)) (HR1.out.below RS.stay (below_drewN (hbw.alloc hbsz _) q))
              clear hRc hRd
              by_cases heq : R.take m1 = L1
              · rw [decide_eq_true heq] at HEQ
                have hll : L1.length = m1 := HR1.out.len.symm
                have HSO2 : Hid (Sofar X E (i + 1) (R.drop m1)) := Lib.hid (by
                  have := HSO.out.take HE2.out ⟨by omega, by omega⟩ h3 (by show R.take L1.length = L1; rw [hll]; exact heq)
                  rw [show (k1, L1).2.length = m1 from hll] at this
                  exact this)
                clear heq hll
                by_cases h2 : k1 = 2
                · subst h2
                  have HDS : Hid (dstE (E.take (i + 1)) = dstE (E.take i)) := Lib.hid (by rw [dstE_snoc HE2.out, if_pos rfl, List.append_nil])
                  clear dk3
                  go_wp2_with fail
                  go_quiet ((go_at_call 42; exact Calls.quiet_of (HEQ.out _)))
                  go_wp2_with fail
                  go_roundw
                  case rel => exact ⟨i + 1, R.drop m1, Ar, nl - m1, cl - m1, by omega, by go_num, rfl, HRD.out, by omega, HSO2, by rw [HDS.out]; exact hsb.below (below_drewN ((Below.refl _ _).alloc (Nat.le_refl _) _) nq), below_drewN (hbw.alloc hbsz _) nq⟩
                  case measure => (simp [intOf]; try omega)
                · have dk2 : (k1 != 2) = true := by rw [bne_iff_ne]; exact h2
                  have HK2 : Hid (k1 ≠ 2) := Lib.hid h2
                  clear h2
                  go_wp2_with fail
                  go_quiet ((go_at_call 42; exact Calls.quiet_of (HEQ.out _)))
                  have hb2 := below_drewN (hbw.alloc hbsz (.cells #[.int .i64 k1, .slice B1 m1 d1] 32)) nq
                  have hsb2 := hsb.below (below_drewN ((Below.refl wr.heap.size wr).alloc (Nat.le_refl _) (.cells #[.int .i64 k1, .slice B1 m1 d1] 32)) nq)
                  go_wp2_with fail
                  go_loopw [57] (fun v57 wr => ∃ j : Nat, j ≤ m1 ∧ v57 = .int .i64 j ∧ SB w1.heap.size w1.heap.size (cat (dstE (E.take i) ++ L1.take j)) wr ∧ Below w1.heap.size w1 wr) (fun v57 _ => m1 - (intOf v57).toNat)
                  case atStart => exact ⟨0, Nat.zero_le _, rfl, by rw [List.take_zero, List.append_nil]; exact hsb2, hb2⟩
                  case round =>
                    obtain ⟨j, hj, rfl, hsb3, hb3⟩ := hrel
                    have hb3z := hb3.size
                    by_cases hlt2 : j < m1
                    · obtain ⟨bx, ox, rfl, hbx, hcx⟩ := RdS.opened HR1.out (by omega)
                      have cx := (hb3.cell (p := ⟨bx, ox + j, none⟩) hbx).trans (hcx j hlt2)
                      have p3 : (j : Int) < (m1 : Int) := by omega
                      have p4 : (0 : Int) ≤ (j : Int) := by omega
                      have hjl : j < L1.length := by have := HR1.out.len; omega
                      have HSN : Hid (cat (dstE (E.take i) ++ L1.take (j + 1)) = cat (dstE (E.take i) ++ L1.take j) ++ L1.getD j BE) := Lib.hid (by
                        rw [List.take_succ_eq_append_getElem hjl, ← List.append_assoc, cat_snoc, getD_lt hjl])
                      have hle := cat_take_le E i (j + 1) HE2.out HK2.out
                      have hle2 := HC.out
                      have hsum : (cat (dstE (E.take i) ++ L1.take j)).size + (L1.getD j BE).size ≤ 140737488355328 := by
                        have h5 := congrArg ByteArray.size HSN.out
                        rw [ByteArray.size_append] at h5
                        have h6 : (cat (dstE (E.take i) ++ L1.take (j + 1))).size ≤ (cat (dstE E)).size := hle
                        omega
                      have HWS := Lib.hid (ws_any w1.heap.size w1.heap.size _ (L1.getD j BE) wr hsb3 hsum hb3z)
                      clear hcx hle hle2 hsum hsb3
                      generalize L1.getD j ByteArray.empty = x at *
                      go_wp2_with fail
                      go_at_call 40
                      refine HWS.out.mono ?_
                      rintro e w7 ⟨rfl, hsb7, hb7⟩
                      go_wp2_with fail
                      go_roundw
                      case rel => exact ⟨j + 1, by omega, by go_num, by rw [HSN.out]; exact hsb7, hb3.trans hb7⟩
                      case measure => (simp [intOf]; try omega)
                    · obtain rfl : m1 = j := by omega
                      have p3 : (m1 : Int) ≤ (m1 : Int) := by omega
                      have HDS : Hid (dstE (E.take (i + 1)) = dstE (E.take i) ++ L1.take m1) := Lib.hid (by
                        have h9 : L1.take m1 = L1 := List.take_of_length_le (by rw [HR1.out.len]; exact Nat.le_refl _)
                        rw [dstE_snoc HE2.out, if_neg HK2.out, h9])
                      go_wp2_with fail
                      go_roundw
                      case rel => exact ⟨i + 1, R.drop m1, Ar, nl - m1, cl - m1, by omega, by go_num, rfl, HRD.out, by omega, HSO2, by rw [HDS.out]; exact hsb3, hb3⟩
                      case measure => (simp [intOf]; try omega)
              · rw [decide_eq_false heq] at HEQ
                have HV : Hid (apV X E = _) := Lib.hid (apV_no (HSO.out.miss HE2.out h3 (by
                  show R.take L1.length ≠ L1
                  rw [← HR1.out.len]; exact heq)))
                clear heq
                go_wp2_with fail
                go_quiet ((go_at_call 42; exact Calls.quiet_of (HEQ.out _)))
                go_wp2_with fail
                go_ret2
                exact ⟨(by rw [HV.out]; try rfl), below_call hb1 (below_drewN (hbw.alloc hbsz _) nq)⟩
            · have dml : decide ((nl : Int) < (m1 : Int)) = true := decide_eq_true (by omega)
              have dml2 : decide (nl < m1) = true := decide_eq_true (by omega)
              have HV : Hid (apV X E = _) := Lib.hid (apV_no (HSO.out.miss HE2.out h3 (fun e => by
                have h5 := congrArg List.length e
                have h6 := HRL.out.len
                have h7 := HR1.out.len
                have h8 : (R.take L1.length).length = L1.length := h5
                rw [List.length_take] at h8
                omega)))
              go_wp2_with fail
              go_quiet (fail)
              go_wp2_with fail
              go_ret2
              exact ⟨(by rw [HV.out]; try rfl), below_call hb1 (below_drewN (hbw.alloc hbsz _) nq)⟩
    · obtain rfl : i = n := by omega
      have hi2 : (i : Int) ≤ (i : Int) := by omega
      by_cases h0 : nl = 0
      · have hR0 : R = [] := hR.nil_none h0
        have d0 : decide ((0 : Int) < (nl : Int)) = false := decide_eq_false (by omega)
        have d0' : decide (0 < nl) = false := decide_eq_false (by omega)
        have HT : Hid (E.take i = E) := Lib.hid (List.take_of_length_le (by rw [HN.out]; exact Nat.le_refl _))
        have HV : Hid (apV X E = _) := Lib.hid (apV_yes (by
          have := HSO.out
          rw [hR0, HN.out] at this
          exact this.done))
        have HSB := Lib.hid (sb_string w1.heap.size w1.heap.size _ wr hsb hbsz)
        rw [HT.out] at HSB
        clear hR0 h0 hsb
        go_wp2_with fail
        go_at_call 41
        refine HSB.out.mono ?_
        rintro e w7 ⟨rfl, hb7⟩
        go_wp2_with fail
        go_ret2
        exact ⟨(by rw [HV.out]; try rfl), below_call hb1 (hbw.trans hb7)⟩
      · have d0 : decide ((0 : Int) < (nl : Int)) = true := decide_eq_true (by omega)
        have d0' : decide (0 < nl) = true := decide_eq_true (by omega)
        have HV : Hid (apV X E = _) := Lib.hid (apV_no (by
          have := HSO.out
          rw [HN.out] at this
          exact this.rest (fun e => h0 (by rw [hR.len, e]; rfl))))
        go_wp2_with fail
        go_ret2
        exact ⟨(by rw [HV.out]; try rfl), below_call hb1 hbw⟩
end Go.Proofs.YtakbpdlfgjfbeaaDoor
