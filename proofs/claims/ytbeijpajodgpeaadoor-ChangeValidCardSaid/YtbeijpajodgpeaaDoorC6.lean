/- The walk of change.Valid. -/
import Derived.Test.YtbeijpajodgpeaaDoorC5
import Derived.Test.YtbeijpajodgpeaaDoorM3
namespace Go.Proofs.YtbeijpajodgpeaaDoor
open Go.RowKit
set_option linter.unusedSimpArgs false
set_option linter.unusedVariables false

theorem cv_7 {c : Cg} (h : fV c.kd = false ∨ frm c = false) : cv c = 7 := by
  unfold cv
  rw [if_pos]
  rcases h with h | h <;> rw [h] <;> simp
theorem cv_2 {c : Cg} (h1 : fV c.kd = true) (h2 : frm c = true) (h : rng c = false) : cv c = 2 := by
  unfold cv
  rw [h1, h2, h]
  rfl
theorem cv_3 {c : Cg} (h1 : fV c.kd = true) (h2 : frm c = true) (h3 : rng c = true) (h : bigC c = true) : cv c = 3 := by
  unfold cv
  rw [h1, h2, h3, h]
  rfl
theorem cv_4 {c : Cg} (h1 : fV c.kd = true) (h2 : frm c = true) (h3 : rng c = true) (h : bigC c = false) : cv c = if c.hs.any bigR = true then 3 else 0 := by
  unfold cv
  rw [h1, h2, h3, h]
  rfl
/-- the loop's answer -/
theorem bigs_hit {L : List Rv} {k : Nat} (hk : k < L.length) (h : bigR (L.getD k rv0) = true) : L.any bigR = true := by
  refine List.any_eq_true.2 ⟨L.getD k rv0, ?_, h⟩
  simp only [List.getD, List.getElem?_eq_getElem hk, Option.getD_some]
  exact List.getElem_mem hk
theorem bigs_miss {L : List Rv} (h : ∀ j, j < L.length → bigR (L.getD j rv0) = false) : L.any bigR = false := by
  rw [List.any_eq_false]
  intro r hr
  obtain ⟨j, hj, e⟩ := List.mem_iff_getElem.1 hr
  have := h j hj
  simp only [List.getD, List.getElem?_eq_getElem hj, Option.getD_some, e] at this
  rw [this]; decide

set_option maxRecDepth 100000 in
set_option maxHeartbeats 16000000 in
theorem valid_any (c : Cg) (A : Option Addr) (n cp : Nat) (x : Int) (w : World) (h : RdR RV 6 w A n cp c.hs) (hwf : ∀ r ∈ c.hs, RvWf r) (hx : Hm x w) :
    Calls Tryd.prog 18 #[cval c A n cp] w fun e w' => e = .returned (.int .i64 (cv c)) ∧ Below w.heap.size w w' := by
  have HUS := Lib.hid (uses_any c.kd)
  cases hV : fV c.kd with
  | false =>
    have HF := Lib.hid (cv_7 (.inl hV))
    rw [hV] at HUS
    clear h hwf hx hV
    obtain ⟨kd, us, nt, ts, tn, os, on, tx, z, hs⟩ := c
    unfold cval usesF at *
    simp only [] at HUS
    go_enter Tryd.func18, Tryd.ntmps18
    go_wp2_with (go_at_call 30; go_must (refine (HUS.out _).mono ?_; rintro e w1 ⟨rfl, hb1⟩))
    go_ret
    exact ⟨by first | (rw [HF.out]; done) | (rw [HF.out]; rfl), by (refine bel_out ?_; (focus (repeat' first | (with_reducible refine bel_refl ?_) | with_reducible assumption | with_reducible refine bel_drew ?_ | with_reducible refine bel_drewN _ ?_ | with_reducible refine bel_alloc _ ?_ | with_reducible refine bel_set ?_ _ ?_ | (with_reducible apply bel_call; with_reducible assumption) | (with_reducible apply bel_owg; with_reducible assumption; (focus omega)) | with_reducible exact Nat.le_refl _ | omega | (simp; done) | (simp; omega))))⟩
  | true =>
    have hk : 1 ≤ c.kd ∧ c.kd ≤ 10 := of_decide_eq_true hV
    have HFM := Lib.hid fun (W : World) => formed_any c A n cp W h.len hk
    have HRG := Lib.hid fun (W : World) (hW : Below w.heap.size w W) => ranged_any c A n cp x W (RdV.below h hW) hwf (hx.below hW) hk
    have HO := Lib.hid fun (h0 : 0 < n) => RdV.opened h h0
    have HL := Lib.hid h.len
    have hmax : n ≤ maxLen := Nat.le_trans h.cap h.max
    unfold maxLen at hmax
    have H7 := Lib.hid (fun e => cv_7 (c := c) (.inr e))
    have H2 := Lib.hid (fun e => cv_2 (c := c) hV e)
    have H3 := Lib.hid (fun e => cv_3 (c := c) hV e)
    have H4 := Lib.hid (fun e => cv_4 (c := c) hV e)
    rw [hV] at HUS
    clear h hwf hx hk hV
    generalize cv c = V at *
    generalize frm c = b1 at *
    generalize rng c = b2 at *
    have HG : Hid (bigC c = (decide (8192 < c.tx.size) || decide (200 < c.nt.size))) := Lib.hid rfl
    generalize bigC c = b3 at *
    obtain ⟨kd, us, nt, ts, tn, os, on, tx, z, hs⟩ := c
    unfold cval usesF at *
    simp only [] at HUS HFM HRG HO HL H4 HG
    generalize fU kd = bU at *
    generalize fN kd = bN at *
    generalize fT kd = bT at *
    generalize fO kd = bO at *
    generalize fK kd = bK at *
    generalize fH kd = bH at *
    go_enter Tryd.func18, Tryd.ntmps18
    go_wp2_with fail
    go_at_call 30
    refine (HUS.out _).mono ?_
    rintro e w1 ⟨rfl, hb1⟩
    have kb1 := heap_call hb1 (heap_new (w := w) (cs := #[.int .i64 kd, .string us, .string nt, .int .i64 ts, .string tn, .int .i64 os, .string on, .string tx, .int .i64 z, .slice A n cp]) (t := 31) rfl)
    have hb01 : Below w.heap.size w w1 := by (refine bel_out ?_; (focus (repeat' first | (with_reducible refine bel_refl ?_) | with_reducible assumption | with_reducible refine bel_drew ?_ | with_reducible refine bel_drewN _ ?_ | with_reducible refine bel_alloc _ ?_ | with_reducible refine bel_set ?_ _ ?_ | (with_reducible apply bel_call; with_reducible assumption) | (with_reducible apply bel_owg; with_reducible assumption; (focus omega)) | with_reducible exact Nat.le_refl _ | omega | (simp; done) | (simp; omega))))
    clear HUS hb1
    go_upto_block 0 with fail
    have ka1 := heap_old (o := .cells #[.bool bU, .bool bN, .bool bT, .bool bO, .bool bN, .bool bK, .bool bH] 72) kb1
    have ka2 : (w1.alloc (.cells #[.bool bU, .bool bN, .bool bT, .bool bO, .bool bN, .bool bK, .bool bH] 72)).heap[w1.heap.size]? = some (.cells #[.bool bU, .bool bN, .bool bT, .bool bO, .bool bN, .bool bK, .bool bH] 72 (0, 0)) := heap_new rfl
    have hb02 := below_call hb01 ((Below.refl w1.heap.size w1).alloc (Nat.le_refl _) (.cells #[.bool bU, .bool bN, .bool bT, .bool bO, .bool bN, .bool bK, .bool bH] 72))
    generalize w1.alloc (.cells #[.bool bU, .bool bN, .bool bT, .bool bO, .bool bN, .bool bK, .bool bH] 72) = w2 at *
    generalize w1.heap.size = g3 at *
    clear kb1 hb01
    have kc1 := Blk.cell ka1
    have kc2 := Blk.cell ka2
    cases b1 with
    | false =>
      have HF := Lib.hid (H7.out rfl)
      go_wp2_with (go_at_call 31; go_must (refine (HFM.out _).mono ?_; rintro e w3 ⟨rfl, hb3⟩))
      go_ret
      exact ⟨by first | (rw [HF.out]; done) | (rw [HF.out]; rfl), below_call hb02 hb3⟩
    | true =>
      cases b2 with
      | false =>
        have HF := Lib.hid (H2.out rfl rfl)
        go_wp2_with (first
          | (go_at_call 31; go_must (refine (HFM.out _).mono ?_; rintro e w3 ⟨rfl, hb3⟩; (have kd1 := Blk.cell (heap_call hb3 ka1)); (have kd2 := Blk.cell (heap_call hb3 ka2))))
          | (go_at_call 32; go_must (refine (HRG.out _ (below_call hb02 hb3)).mono ?_; rintro e w4 ⟨rfl, hb4⟩)))
        go_ret
        exact ⟨by first | (rw [HF.out]; done) | (rw [HF.out]; rfl), below_call (below_call hb02 hb3) hb4⟩
      | true =>
        by_cases g1 : 8192 < tx.size
        · have HF := Lib.hid (H3.out rfl rfl (by rw [HG.out, decide_eq_true g1]; rfl))
          have e1 : (8192 : Int) < (tx.size : Int) := by omega
          clear HG g1
          go_wp2_with (first
            | (go_at_call 31; go_must (refine (HFM.out _).mono ?_; rintro e w3 ⟨rfl, hb3⟩; (have kd1 := Blk.cell (heap_call hb3 ka1)); (have kd2 := Blk.cell (heap_call hb3 ka2))))
            | (go_at_call 32; go_must (refine (HRG.out _ (below_call hb02 hb3)).mono ?_; rintro e w4 ⟨rfl, hb4⟩; (have kd3 := Blk.cell (heap_call hb4 (heap_call hb3 ka1))))))
          go_ret
          exact ⟨by first | (rw [HF.out]; done) | (rw [HF.out]; rfl), below_call (below_call hb02 hb3) hb4⟩
        by_cases g2 : 200 < nt.size
        · have HF := Lib.hid (H3.out rfl rfl (by rw [HG.out, decide_eq_true g2, Bool.or_true]))
          have e1 : ¬ (8192 : Int) < (tx.size : Int) := by omega
          have e2 : (200 : Int) < (nt.size : Int) := by omega
          clear HG g1 g2
          go_wp2_with (first
            | (go_at_call 31; go_must (refine (HFM.out _).mono ?_; rintro e w3 ⟨rfl, hb3⟩; (have kd1 := Blk.cell (heap_call hb3 ka1)); (have kd2 := Blk.cell (heap_call hb3 ka2))))
            | (go_at_call 32; go_must (refine (HRG.out _ (below_call hb02 hb3)).mono ?_; rintro e w4 ⟨rfl, hb4⟩; (have kd3 := Blk.cell (heap_call hb4 (heap_call hb3 ka1))))))
          go_ret
          exact ⟨by first | (rw [HF.out]; done) | (rw [HF.out]; rfl), below_call (below_call hb02 hb3) hb4⟩
        have HV := Lib.hid (H4.out rfl rfl (by rw [HG.out, decide_eq_false g1, decide_eq_false g2]; rfl))
        have e1 : ¬ (8192 : Int) < (tx.size : Int) := by omega
        have e2 : ¬ (200 : Int) < (nt.size : Int) := by omega
        clear HG g1 g2 H2 H3 H4 H7
        go_upto_region 8 with (first
          | (go_at_call 31; go_must (refine (HFM.out _).mono ?_; rintro e w3 ⟨rfl, hb3⟩; (have kd1 := Blk.cell (heap_call hb3 ka1)); (have kd2 := Blk.cell (heap_call hb3 ka2))))
          | (go_at_call 32; go_must (refine (HRG.out _ (below_call hb02 hb3)).mono ?_; rintro e w4 ⟨rfl, hb4⟩; (have kd3 := Blk.cell (heap_call hb4 (heap_call hb3 ka1))))))
        have k4 := heap_call hb4 (heap_call hb3 ka1)
        have hb04 := below_call (below_call hb02 hb3) hb4
        have kq := Blk.cell k4
        clear kd1 kd2 kd3 kc1 kc2 ka1 ka2 hb3 hb4 hb02 HFM HRG
        go_wp2_with fail
        go_loopw [41] (fun v wr => ∃ k : Nat, k ≤ n ∧ v = .int .i64 k ∧ Below w.heap.size w wr ∧ Hid (∀ j, j < k → bigR (hs.getD j rv0) = false)) (fun v _ => n - (intOf v).toNat)
        case atStart => exact ⟨0, Nat.zero_le _, rfl, hb04, Lib.hid fun j h => by omega⟩
        case round =>
          obtain ⟨k, hk, rfl, hbw, HB⟩ := hrel
          clear e1 e2
          by_cases hlt : k < n
          · obtain ⟨b, off, rfl, hb, hc⟩ := HO.out (by omega)
            obtain ⟨x0, x1, x2, x3, x4, x5⟩ := hc k hlt
            have kl : k < hs.length := by rw [← HL.out]; exact hlt
            have c0 := (hbw.cell (p := ⟨b, off + k * 6, none⟩) hb).trans x0
            have c1 := (hbw.cell (p := ⟨b, off + k * 6 + 1, none⟩) hb).trans x1
            have c2 := (hbw.cell (p := ⟨b, off + k * 6 + 2, none⟩) hb).trans x2
            have c3 := (hbw.cell (p := ⟨b, off + k * 6 + 3, none⟩) hb).trans x3
            have c4 := (hbw.cell (p := ⟨b, off + k * 6 + 4, none⟩) hb).trans x4
            have c5 := (hbw.cell (p := ⟨b, off + k * 6 + 5, none⟩) hb).trans x5
            have HN := Lib.hid (fun e => bigs_hit (L := hs) kl e)
            have HG : Hid (bigR (hs.getD k rv0) = (decide (8192 < (hs.getD k rv0).tx.size) || decide (200 < (hs.getD k rv0).nt.size))) := Lib.hid rfl
            have HS : Hid (bigR (hs.getD k rv0) = false → ∀ j, j < k + 1 → bigR (hs.getD j rv0) = false) := Lib.hid fun h j hj => by
              rcases Nat.lt_or_ge j k with h1 | h1
              · exact HB.out j h1
              · obtain rfl : j = k := by omega
                exact h
            clear x0 x1 x2 x3 x4 x5 hc HB HO
            generalize bigR (hs.getD k rv0) = bb at *
            generalize hs.getD k rv0 = r at *
            obtain ⟨num, us', nt', tx', mi, sq⟩ := r
            simp only [] at c0 c1 c2 c3 c4 c5 HG
            have z0 : (0 : Int) ≤ (k : Int) := by omega
            have z1 : (k : Int) < (n : Int) := by omega
            have HBA : Hid (Below w.heap.size w (wr.alloc (.cells #[.int .i64 num, .string us', .string nt', .string tx', .int .i64 mi, .int .i64 sq] 67))) := Lib.hid (hbw.alloc hbw.size _)
            by_cases g1 : 8192 < tx'.size
            · have HF : Hid (V = 3) := Lib.hid (by rw [HV.out, if_pos (HN.out (by rw [HG.out, decide_eq_true g1]; rfl))])
              have e1 : (8192 : Int) < (tx'.size : Int) := by omega
              clear HN HG HS g1 HV
              go_wp2_with fail
              go_ret
              exact ⟨by first | (rw [HF.out]; done) | (rw [HF.out]; rfl), HBA.out⟩
            by_cases g2 : 200 < nt'.size
            · have HF : Hid (V = 3) := Lib.hid (by rw [HV.out, if_pos (HN.out (by rw [HG.out, decide_eq_true g2, Bool.or_true]))])
              have e1 : ¬ (8192 : Int) < (tx'.size : Int) := by omega
              have e2 : (200 : Int) < (nt'.size : Int) := by omega
              clear HN HG HS g1 g2 HV
              go_wp2_with fail
              go_ret
              exact ⟨by first | (rw [HF.out]; done) | (rw [HF.out]; rfl), HBA.out⟩
            have HS2 := Lib.hid (HS.out (by rw [HG.out, decide_eq_false g1, decide_eq_false g2]; rfl))
            have e1 : ¬ (8192 : Int) < (tx'.size : Int) := by omega
            have e2 : ¬ (200 : Int) < (nt'.size : Int) := by omega
            clear HN HG HS g1 g2
            go_wp2_with fail
            go_roundw
            case rel => exact ⟨k + 1, by omega, by go_num, HBA.out, HS2⟩
            case measure => simp [intOf]; omega
          · obtain rfl : k = n := by omega
            have HF : Hid (V = 0) := Lib.hid (by rw [HV.out, if_neg (by rw [bigs_miss (by rw [← HL.out]; exact HB.out)]; decide)])
            clear HV
            go_wp2_with fail
            go_ret
            exact ⟨by first | (rw [HF.out]; done) | (rw [HF.out]; rfl), hbw⟩
end Go.Proofs.YtbeijpajodgpeaaDoor
