/- The reference's Apply. -/
import Derived.Test.YtakbpdlfgjfbeaaDoorD22
namespace Go.Proofs.YtakbpdlfgjfbeaaDoor
open Go.RowKit
set_option linter.unusedSimpArgs false
set_option linter.unusedVariables false

theorem miss_at {X L : List ByteArray} {N j : Nat} (hj : j < L.length) (h : X.length ≤ N + j ∨ X.getD (N + j) BE ≠ L.getD j BE) : (X.drop N).take L.length ≠ L := by
  intro e
  have h1 : L[j]? = X[N + j]? := by
    conv => lhs; rw [← e]
    rw [List.getElem?_take, if_pos hj, List.getElem?_drop]
  rcases h with h | h
  · rw [List.getElem?_eq_none h, List.getElem?_eq_getElem hj] at h1
    cases h1
  · apply h
    simp [List.getD, h1]
theorem match_snoc {X L : List ByteArray} {N j : Nat} (hj : j < L.length) (hn : N + j < X.length) (h : (X.drop N).take j = L.take j) (he : X.getD (N + j) BE = L.getD j BE) : (X.drop N).take (j + 1) = L.take (j + 1) := by
  rw [List.take_succ_eq_append_getElem hj, List.take_succ_eq_append_getElem (by rw [List.length_drop]; omega), h, List.getElem_drop]
  rw [getD_lt hn, getD_lt hj] at he
  rw [he]
theorem give_snoc {D L : List ByteArray} {j : Nat} (hj : j < L.length) : cat (D ++ L.take (j + 1)) = cat (D ++ L.take j) ++ L.getD j BE := by
  rw [List.take_succ_eq_append_getElem hj, ← List.append_assoc, cat_snoc, getD_lt hj]

set_option maxRecDepth 100000 in
set_option maxHeartbeats 8000000 in
theorem rapply_any (s : ByteArray) (A : Option Addr) (n c : Nat) (E : List Ed) (w : World) (hs : s.size ≤ 4294967280) (hE : RdR RE 2 w A n c E) (hn : n ≤ 100000) (hcat : (cat (dstE E)).size ≤ 1099511627776) :
    Calls Tryd.prog 27 #[.string s, .slice A n c] w fun e w' => e = .returned (apV (LN s) E) ∧ Below w.heap.size w w' := by
  have HLN := Lib.hid (rlines_n s (LN s).length (LN s) rfl rfl hs w)
  have hln : (LN s).length ≤ 4294967280 := Nat.le_trans (LN_length s) hs
  have HE := Lib.hid hE
  have HC := Lib.hid hcat
  have HN := Lib.hid hE.len
  clear hcat hE
  generalize LN s = X at *
  generalize hx : X.length = nx at *
  have HNX := Lib.hid hx
  clear hx
  go_enter Tryd.func27, Tryd.ntmps27
  go_wp2_with fail
  go_at_call 19
  refine HLN.out.mono ?_
  rintro e w1 ⟨A1, c1, rfl, hx1, hb1⟩
  have HX := Lib.hid hx1
  have HE1 := Lib.hid (RdE.below HE.out hb1)
  clear hx1 HLN HE
  go_wp2_with fail
  go_loopw [7, 8, 9] (fun v7 v8 v9 wr => ∃ i N : Nat, i ≤ n ∧ v9 = .int .i64 i ∧ N ≤ nx ∧ v8 = .int .i64 N ∧ v7 = .string (cat (dstE (E.take i))) ∧ Hid (Sofar X E i (X.drop N)) ∧ Below w1.heap.size w1 wr) (fun _ _ v9 _ => n - (intOf v9).toNat)
  case atStart => exact ⟨0, 0, Nat.zero_le _, rfl, Nat.zero_le _, rfl, by rw [List.take_zero]; rfl, Lib.hid (by rw [List.drop_zero]; exact Sofar.start X E), Below.refl _ _⟩
  case round =>
    obtain ⟨i, N, hi, rfl, hNx, rfl, rfl, HSO, hbw⟩ := hrel
    have hbsz := hbw.size
    have hnn : (nx : Int) ≤ 4294967280 := by omega
    by_cases hlt : i < n
    · obtain ⟨b1, o1, k1, L1, B1, m1, d1, rfl, hb1', hE1, hk1, hs1, hr1⟩ := RdE.at_ HE1.out hlt
      have cc1 := (hbw.cell (p := ⟨b1, o1 + i * 2, none⟩) hb1').trans hk1
      have cc2 := (hbw.cell (p := ⟨b1, o1 + i * 2 + 1, none⟩) hb1').trans hs1
      have p1 : (i : Int) < (n : Int) := by omega
      have p2 : (0 : Int) ≤ (i : Int) := by omega
      have hmm : m1 ≤ maxLen := Nat.le_trans hr1.cap hr1.max
      unfold maxLen at hmm
      have HE2 := Lib.hid hE1
      have HR1 := Lib.hid hr1
      clear hE1 hk1 hs1 hr1
      by_cases hlo : k1 < 1
      · have d1' : decide (k1 < 1) = true := decide_eq_true hlo
        have HV : Hid (apV X E = _) := Lib.hid (apV_no (Sofar.bad HE2.out (Or.inl hlo)))
        go_wp2_with fail
        go_ret2
        exact ⟨(by rw [HV.out]; try rfl), below_call hb1 (hbw.alloc hbsz _)⟩
      · have d1' : decide (k1 < 1) = false := decide_eq_false hlo
        by_cases hhi : 3 < k1
        · have d2' : decide (3 < k1) = true := decide_eq_true hhi
          have HV : Hid (apV X E = _) := Lib.hid (apV_no (Sofar.bad HE2.out (Or.inr hhi)))
          go_wp2_with fail
          go_ret2
          exact ⟨(by rw [HV.out]; try rfl), below_call hb1 (hbw.alloc hbsz _)⟩
        · have d2' : decide (3 < k1) = false := decide_eq_false hhi
          have hb3 := hbw.alloc hbsz (.cells #[.int .i64 k1, .slice B1 m1 d1] 32)
          have HBX : Hid ((wr.alloc (.cells #[.int .i64 k1, .slice B1 m1 d1] 32)).heap[wr.heap.size]? = some (.cells #[.int .i64 k1, .slice B1 m1 d1] 32 (0, 0))) := Lib.hid (heap_new rfl)
          by_cases hk : k1 = 1
          · subst hk
            go_wp2_with fail
            generalize hgw : wr.alloc (.cells #[.int .i64 1, .slice B1 m1 d1] 32) = w3 at *
            generalize wr.heap.size = g at *
            clear hgw cc1 cc2 hbsz
            have dk3 : ((1 : Int) != 3) = true := rfl
            have dk2 : ((1 : Int) != 2) = true := rfl
            go_loopw [7, 8, 11] (fun v7 v8 v11 wr => ∃ j : Nat, j ≤ m1 ∧ v11 = .int .i64 j ∧ N + j ≤ nx ∧ v8 = .int .i64 ((N + j : Nat) : Int) ∧ v7 = .string (cat (dstE (E.take i) ++ L1.take j)) ∧ Below w3.heap.size w3 wr ∧ Hid ((X.drop N).take j = L1.take j)) (fun _ _ v11 _ => m1 - (intOf v11).toNat)
            case atStart => exact ⟨0, Nat.zero_le _, rfl, (by omega), rfl, by rw [List.take_zero, List.append_nil], Below.refl _ _, Lib.hid rfl⟩
            case round =>
              obtain ⟨j, hj, rfl, hNj, rfl, rfl, hb4, HMT⟩ := hrel
              have hb14 := below_call hb3 hb4
              obtain ⟨kc, kf, kz, kh⟩ := blk_cells (g := g) (t := 32) (cs := #[.int .i64 1, .slice B1 m1 d1]) hb4 HBX.out
              clear kh kf
              by_cases hlt2 : j < m1
              · obtain ⟨bx, ox, rfl, hbx, hcx⟩ := RdS.opened HR1.out (by omega)
                have cx := (hb14.cell (p := ⟨bx, ox + j, none⟩) hbx).trans (hcx j hlt2)
                have p3 : (j : Int) < (m1 : Int) := by omega
                have p4 : (0 : Int) ≤ (j : Int) := by omega
                have hjl : j < L1.length := by have := HR1.out.len; omega
                clear hcx
                have HSN : Hid (cat (dstE (E.take i) ++ L1.take (j + 1)) = cat (dstE (E.take i) ++ L1.take j) ++ L1.getD j BE) := Lib.hid (give_snoc hjl)
                have hle := cat_take_le E i (j + 1) HE2.out (show (1 : Int) ≠ 2 by decide)
                have hle2 := HC.out
                have hsum : ¬ 9223372036854775807 < (cat (dstE (E.take i) ++ L1.take j)).size + (L1.getD j BE).size := by
                  have h5 := congrArg ByteArray.size HSN.out
                  rw [ByteArray.size_append] at h5
                  have h6 : (cat (dstE (E.take i) ++ L1.take (j + 1))).size ≤ (cat (dstE E)).size := hle
                  omega
                clear hle hle2
                have HGX := HX.out
                by_cases hnx : N + j < nx
                · obtain ⟨by_, oy, eA1, hby, hcy⟩ := RdS.opened HGX (by omega)
                  have cy := (hb14.cell (p := ⟨by_, oy + (N + j), none⟩) hby).trans (hcy (N + j) hnx)
                  subst eA1
                  clear hcy HGX
                  have dn : decide ((nx : Int) ≤ ((N + j : Nat) : Int)) = false := decide_eq_false (by omega)
                  have dn2 : decide (nx ≤ N + j) = false := decide_eq_false (by omega)
                  have dn3 : decide ((nx : Int) ≤ (N : Int) + (j : Int)) = false := decide_eq_false (by omega)
                  have p5 : (N : Int) + (j : Int) < (nx : Int) := by omega
                  have p6 : (0 : Int) ≤ (N : Int) + (j : Int) := by omega
                  have p7 : ((N + j : Nat) : Int) < (nx : Int) := by omega
                  by_cases heq : X.getD (N + j) BE = L1.getD j BE
                  · have HMT2 : Hid ((X.drop N).take (j + 1) = L1.take (j + 1)) := Lib.hid (match_snoc hjl (by rw [HNX.out]; exact hnx) HMT.out heq)
                    rw [show X.getD (N + j) ByteArray.empty = L1.getD j ByteArray.empty from heq] at cy
                    have hq : ((L1.getD j ByteArray.empty).toList != (L1.getD j ByteArray.empty).toList) = false := by simp
                    clear heq
                    generalize L1.getD j ByteArray.empty = xk at *
                    go_wp2_with fail
                    go_quiet (fail)
                    go_wp2_with fail
                    go_roundw
                    case rel => exact ⟨j + 1, by omega, by go_num, by omega, by go_num, by rw [HSN.out], below_drewN hb4 nq, HMT2⟩
                    case measure => (simp [intOf]; try omega)
                  · have HV : Hid (apV X E = _) := Lib.hid (apV_no (HSO.out.miss HE2.out (show (1 : Int) ≠ 3 by decide) (miss_at hjl (Or.inr heq))))
                    have hq : ((X.getD (N + j) BE).toList != (L1.getD j BE).toList) = true := by
                      have := str_beq (X.getD (N + j) BE) (L1.getD j BE)
                      rw [decide_eq_false heq] at this
                      simp only [bne, this]; rfl
                    have hq2 : ((X.getD (N + j) BE).toList == (L1.getD j BE).toList) = false := by rw [str_beq]; exact decide_eq_false heq
                    clear heq hsum HSN
                    generalize X.getD (N + j) ByteArray.empty = yk at *
                    generalize L1.getD j ByteArray.empty = xk at *
                    go_wp2_with fail
                    go_quiet (fail)
                    go_wp2_with fail
                    go_ret2
                    exact ⟨(by rw [HV.out]; try rfl), below_call hb1 (below_drewN hb14 nq)⟩
                · have HV : Hid (apV X E = _) := Lib.hid (apV_no (HSO.out.miss HE2.out (show (1 : Int) ≠ 3 by decide) (miss_at hjl (Or.inl (by rw [HNX.out]; omega)))))
                  have dn : decide ((nx : Int) ≤ ((N + j : Nat) : Int)) = true := decide_eq_true (by omega)
                  have dn2 : decide (nx ≤ N + j) = true := decide_eq_true (by omega)
                  have dn3 : decide ((nx : Int) ≤ (N : Int) + (j : Int)) = true := decide_eq_true (by omega)
                  clear HGX hsum HSN
                  go_wp2_with fail
                  go_quiet (fail)
                  go_wp2_with fail
                  go_ret2
                  exact ⟨(by rw [HV.out]; try rfl), below_call hb1 (below_drewN hb14 nq)⟩
              · obtain rfl : m1 = j := by omega
                have p3 : (m1 : Int) ≤ (m1 : Int) := by omega
                have hll : L1.length = m1 := HR1.out.len.symm
                have hta : L1.take m1 = L1 := List.take_of_length_le (by omega)
                have HDS : Hid (cat (dstE (E.take (i + 1))) = cat (dstE (E.take i) ++ L1.take m1)) := Lib.hid (by rw [dstE_snoc HE2.out, if_neg (show ¬ (1 : Int) = 2 by decide), hta])
                have HSO2 : Hid (Sofar X E (i + 1) (X.drop (N + m1))) := Lib.hid (by
                  have h9 := HSO.out.take HE2.out (show (1 : Int) ≤ 1 ∧ (1 : Int) ≤ 3 by decide) (show (1 : Int) ≠ 3 by decide) (by show (X.drop N).take L1.length = L1; rw [hll, HMT.out, hta])
                  rw [show ((1 : Int), L1).2.length = m1 from hll, List.drop_drop] at h9
                  exact h9)
                clear hll hta
                go_wp2_with fail
                go_roundw
                case rel => exact ⟨i + 1, N + m1, by omega, by go_num, by omega, rfl, by rw [HDS.out], HSO2, hb14⟩
                case measure => (simp [intOf]; try omega)
          · by_cases hk : k1 = 2
            · subst hk
              go_wp2_with fail
              generalize hgw : wr.alloc (.cells #[.int .i64 2, .slice B1 m1 d1] 32) = w3 at *
              generalize wr.heap.size = g at *
              clear hgw cc1 cc2 hbsz
              have dk3 : ((2 : Int) != 3) = true := rfl
              have dk2 : ((2 : Int) != 2) = false := rfl
              go_loopw [7, 8, 11] (fun v7 v8 v11 wr => ∃ j : Nat, j ≤ m1 ∧ v11 = .int .i64 j ∧ N + j ≤ nx ∧ v8 = .int .i64 ((N + j : Nat) : Int) ∧ v7 = .string (cat (dstE (E.take i))) ∧ Below w3.heap.size w3 wr ∧ Hid ((X.drop N).take j = L1.take j)) (fun _ _ v11 _ => m1 - (intOf v11).toNat)
              case atStart => exact ⟨0, Nat.zero_le _, rfl, (by omega), rfl, by rfl, Below.refl _ _, Lib.hid rfl⟩
              case round =>
                obtain ⟨j, hj, rfl, hNj, rfl, rfl, hb4, HMT⟩ := hrel
                have hb14 := below_call hb3 hb4
                obtain ⟨kc, kf, kz, kh⟩ := blk_cells (g := g) (t := 32) (cs := #[.int .i64 2, .slice B1 m1 d1]) hb4 HBX.out
                clear kh kf
                by_cases hlt2 : j < m1
                · obtain ⟨bx, ox, rfl, hbx, hcx⟩ := RdS.opened HR1.out (by omega)
                  have cx := (hb14.cell (p := ⟨bx, ox + j, none⟩) hbx).trans (hcx j hlt2)
                  have p3 : (j : Int) < (m1 : Int) := by omega
                  have p4 : (0 : Int) ≤ (j : Int) := by omega
                  have hjl : j < L1.length := by have := HR1.out.len; omega
                  clear hcx
                  have HGX := HX.out
                  by_cases hnx : N + j < nx
                  · obtain ⟨by_, oy, eA1, hby, hcy⟩ := RdS.opened HGX (by omega)
                    have cy := (hb14.cell (p := ⟨by_, oy + (N + j), none⟩) hby).trans (hcy (N + j) hnx)
                    subst eA1
                    clear hcy HGX
                    have dn : decide ((nx : Int) ≤ ((N + j : Nat) : Int)) = false := decide_eq_false (by omega)
                    have dn2 : decide (nx ≤ N + j) = false := decide_eq_false (by omega)
                    have dn3 : decide ((nx : Int) ≤ (N : Int) + (j : Int)) = false := decide_eq_false (by omega)
                    have p5 : (N : Int) + (j : Int) < (nx : Int) := by omega
                    have p6 : (0 : Int) ≤ (N : Int) + (j : Int) := by omega
                    have p7 : ((N + j : Nat) : Int) < (nx : Int) := by omega
                    by_cases heq : X.getD (N + j) BE = L1.getD j BE
                    · have HMT2 : Hid ((X.drop N).take (j + 1) = L1.take (j + 1)) := Lib.hid (match_snoc hjl (by rw [HNX.out]; exact hnx) HMT.out heq)
                      rw [show X.getD (N + j) ByteArray.empty = L1.getD j ByteArray.empty from heq] at cy
                      have hq : ((L1.getD j ByteArray.empty).toList != (L1.getD j ByteArray.empty).toList) = false := by simp
                      clear heq
                      generalize L1.getD j ByteArray.empty = xk at *
                      go_wp2_with fail
                      go_quiet (fail)
                      go_wp2_with fail
                      go_roundw
                      case rel => exact ⟨j + 1, by omega, by go_num, by omega, by go_num, by rfl, below_drewN hb4 nq, HMT2⟩
                      case measure => (simp [intOf]; try omega)
                    · have HV : Hid (apV X E = _) := Lib.hid (apV_no (HSO.out.miss HE2.out (show (2 : Int) ≠ 3 by decide) (miss_at hjl (Or.inr heq))))
                      have hq : ((X.getD (N + j) BE).toList != (L1.getD j BE).toList) = true := by
                        have := str_beq (X.getD (N + j) BE) (L1.getD j BE)
                        rw [decide_eq_false heq] at this
                        simp only [bne, this]; rfl
                      have hq2 : ((X.getD (N + j) BE).toList == (L1.getD j BE).toList) = false := by rw [str_beq]; exact decide_eq_false heq
                      clear heq
                      generalize X.getD (N + j) ByteArray.empty = yk at *
                      generalize L1.getD j ByteArray.empty = xk at *
                      go_wp2_with fail
                      go_quiet (fail)
                      go_wp2_with fail
                      go_ret2
                      exact ⟨(by rw [HV.out]; try rfl), below_call hb1 (below_drewN hb14 nq)⟩
                  · have HV : Hid (apV X E = _) := Lib.hid (apV_no (HSO.out.miss HE2.out (show (2 : Int) ≠ 3 by decide) (miss_at hjl (Or.inl (by rw [HNX.out]; omega)))))
                    have dn : decide ((nx : Int) ≤ ((N + j : Nat) : Int)) = true := decide_eq_true (by omega)
                    have dn2 : decide (nx ≤ N + j) = true := decide_eq_true (by omega)
                    have dn3 : decide ((nx : Int) ≤ (N : Int) + (j : Int)) = true := decide_eq_true (by omega)
                    clear HGX
                    go_wp2_with fail
                    go_quiet (fail)
                    go_wp2_with fail
                    go_ret2
                    exact ⟨(by rw [HV.out]; try rfl), below_call hb1 (below_drewN hb14 nq)⟩
                · obtain rfl : m1 = j := by omega
                  have p3 : (m1 : Int) ≤ (m1 : Int) := by omega
                  have hll : L1.length = m1 := HR1.out.len.symm
                  have hta : L1.take m1 = L1 := List.take_of_length_le (by omega)
                  have HDS : Hid (cat (dstE (E.take (i + 1))) = cat (dstE (E.take i))) := Lib.hid (by rw [dstE_snoc HE2.out, if_pos rfl, List.append_nil])
                  have HSO2 : Hid (Sofar X E (i + 1) (X.drop (N + m1))) := Lib.hid (by
                    have h9 := HSO.out.take HE2.out (show (1 : Int) ≤ 2 ∧ (2 : Int) ≤ 3 by decide) (show (2 : Int) ≠ 3 by decide) (by show (X.drop N).take L1.length = L1; rw [hll, HMT.out, hta])
                    rw [show ((2 : Int), L1).2.length = m1 from hll, List.drop_drop] at h9
                    exact h9)
                  clear hll hta
                  go_wp2_with fail
                  go_roundw
                  case rel => exact ⟨i + 1, N + m1, by omega, by go_num, by omega, rfl, by rw [HDS.out], HSO2, hb14⟩
                  case measure => (simp [intOf]; try omega)
            · have hk : k1 = 3 := by omega
              subst hk
              go_wp2_with fail
              generalize hgw : wr.alloc (.cells #[.int .i64 3, .slice B1 m1 d1] 32) = w3 at *
              generalize wr.heap.size = g at *
              clear hgw cc1 cc2 hbsz
              have dk3 : ((3 : Int) != 3) = false := rfl
              have dk2 : ((3 : Int) != 2) = true := rfl
              go_loopw [7, 8, 11] (fun v7 v8 v11 wr => ∃ j : Nat, j ≤ m1 ∧ v11 = .int .i64 j ∧ v8 = .int .i64 ((N : Nat) : Int) ∧ v7 = .string (cat (dstE (E.take i) ++ L1.take j)) ∧ Below w3.heap.size w3 wr) (fun _ _ v11 _ => m1 - (intOf v11).toNat)
              case atStart => exact ⟨0, Nat.zero_le _, rfl, rfl, by rw [List.take_zero, List.append_nil], Below.refl _ _⟩
              case round =>
                obtain ⟨j, hj, rfl, rfl, rfl, hb4⟩ := hrel
                have hb14 := below_call hb3 hb4
                obtain ⟨kc, kf, kz, kh⟩ := blk_cells (g := g) (t := 32) (cs := #[.int .i64 3, .slice B1 m1 d1]) hb4 HBX.out
                clear kh kf
                by_cases hlt2 : j < m1
                · obtain ⟨bx, ox, rfl, hbx, hcx⟩ := RdS.opened HR1.out (by omega)
                  have cx := (hb14.cell (p := ⟨bx, ox + j, none⟩) hbx).trans (hcx j hlt2)
                  have p3 : (j : Int) < (m1 : Int) := by omega
                  have p4 : (0 : Int) ≤ (j : Int) := by omega
                  have hjl : j < L1.length := by have := HR1.out.len; omega
                  clear hcx
                  have HSN : Hid (cat (dstE (E.take i) ++ L1.take (j + 1)) = cat (dstE (E.take i) ++ L1.take j) ++ L1.getD j BE) := Lib.hid (give_snoc hjl)
                  have hle := cat_take_le E i (j + 1) HE2.out (show (3 : Int) ≠ 2 by decide)
                  have hle2 := HC.out
                  have hsum : ¬ 9223372036854775807 < (cat (dstE (E.take i) ++ L1.take j)).size + (L1.getD j BE).size := by
                    have h5 := congrArg ByteArray.size HSN.out
                    rw [ByteArray.size_append] at h5
                    have h6 : (cat (dstE (E.take i) ++ L1.take (j + 1))).size ≤ (cat (dstE E)).size := hle
                    omega
                  clear hle hle2
                  generalize L1.getD j ByteArray.empty = xk at *
                  go_wp2_with fail
                  go_roundw
                  case rel => exact ⟨j + 1, by omega, by go_num, by rfl, by rw [HSN.out], hb4⟩
                  case measure => (simp [intOf]; try omega)
                · obtain rfl : m1 = j := by omega
                  have p3 : (m1 : Int) ≤ (m1 : Int) := by omega
                  have hll : L1.length = m1 := HR1.out.len.symm
                  have hta : L1.take m1 = L1 := List.take_of_length_le (by omega)
                  have HDS : Hid (cat (dstE (E.take (i + 1))) = cat (dstE (E.take i) ++ L1.take m1)) := Lib.hid (by rw [dstE_snoc HE2.out, if_neg (show ¬ (3 : Int) = 2 by decide), hta])
                  have HSO2 : Hid (Sofar X E (i + 1) (X.drop (N))) := Lib.hid (by
                    exact HSO.out.skip HE2.out rfl)
                  clear hll hta
                  go_wp2_with fail
                  go_roundw
                  case rel => exact ⟨i + 1, N, by omega, by go_num, by omega, rfl, by rw [HDS.out], HSO2, hb14⟩
                  case measure => (simp [intOf]; try omega)
    · obtain rfl : i = n := by omega
      have hi2 : (i : Int) ≤ (i : Int) := by omega
      have HT : Hid (E.take i = E) := Lib.hid (List.take_of_length_le (by rw [HN.out]; exact Nat.le_refl _))
      by_cases h0 : N < nx
      · have d0 : decide ((N : Int) < (nx : Int)) = true := decide_eq_true (by omega)
        have d0' : decide (N < nx) = true := decide_eq_true h0
        have HV : Hid (apV X E = _) := Lib.hid (apV_no (by
          have := HSO.out
          rw [HN.out] at this
          refine this.rest (fun e => ?_)
          have h9 := congrArg List.length e
          rw [List.length_drop, HNX.out] at h9
          simp at h9
          omega))
        go_wp2_with fail
        go_ret2
        exact ⟨(by rw [HV.out]; try rfl), below_call hb1 hbw⟩
      · have d0 : decide ((N : Int) < (nx : Int)) = false := decide_eq_false (by omega)
        have d0' : decide (N < nx) = false := decide_eq_false h0
        have HV : Hid (apV X E = _) := Lib.hid (apV_yes (by
          have := HSO.out
          rw [List.drop_of_length_le (by rw [HNX.out]; omega), HN.out] at this
          exact this.done))
        go_wp2_with fail
        go_ret2
        exact ⟨(by rw [HV.out, HT.out]; try rfl), below_call hb1 hbw⟩
end Go.Proofs.YtakbpdlfgjfbeaaDoor
