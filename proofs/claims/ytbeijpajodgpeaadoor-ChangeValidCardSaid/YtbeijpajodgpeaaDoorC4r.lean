/- The walk of trcref26.history. Printed by gen_c4.py -/
import Derived.Test.YtbeijpajodgpeaaDoorC4
import Derived.Deep.RegionHeld3
namespace Go.Proofs.YtbeijpajodgpeaaDoor
open Go.RowKit
set_option linter.unusedSimpArgs false
set_option linter.unusedVariables false
set_option maxRecDepth 100000 in
set_option maxHeartbeats 40000000 in
theorem rhistory_any (A : Option Addr) (n c : Nat) (L : List Rv) (w : World) (h : RdR RV 6 w A n c L) (hwf : ∀ r ∈ L, RvWf r) :
    Calls Tryd.prog 56 #[.slice A n c] w fun e w' => e = .returned (.bool (hst L)) ∧ Below w.heap.size w w' := by
  have hub : ∀ b : Bool, (some undef = some (Value.bool b)) = False := fun b => by simp [undef]
  have hub2 : ∀ b : Bool, (undef = Value.bool b) = False := fun b => by simp [undef]
  have HL := Lib.hid h.len
  by_cases hlen : 1 ≤ n ∧ n ≤ 40
  · obtain ⟨hn1, hn2⟩ := hlen
    obtain ⟨b, off, rfl, hb, hc⟩ := RdV.opened h (by omega)
    have HC := Lib.hid hc
    have HU := Lib.hid risuser_any
    have HY := Lib.hid (fun h => hst_yes (l := L) ⟨by rw [← HL.out]; exact hn1, by rw [← HL.out]; exact hn2⟩ h)
    have HWF := Lib.hid hwf
    clear hc h hwf
    have s1 : ¬ (n : Int) < 1 := by omega
    have s2 : ¬ (40 : Int) < (n : Int) := by omega
    go_enter Tryd.func56, Tryd.ntmps56
    go_wp2_with fail
    go_loopw [3] (fun v wr => ∃ k : Nat, k ≤ n ∧ v = .int .i64 k ∧ Below w.heap.size w wr ∧ Hid (∀ j, j < k → hOk L j = true)) (fun v _ => n - (intOf v).toNat)
    case atStart => exact ⟨0, Nat.zero_le _, rfl, Below.refl _ _, Lib.hid fun j h => by omega⟩
    case round =>
      obtain ⟨k, hk, rfl, hbw, HB⟩ := hrel
      clear s1 s2
      by_cases hlt : k < n
      · obtain ⟨x0, x1, x2, x3, x4, x5⟩ := HC.out k hlt
        have kl : k < L.length := by rw [← HL.out]; exact hlt
        have c0 := (hbw.cell (p := ⟨b, off + k * 6, none⟩) hb).trans x0
        have c1 := (hbw.cell (p := ⟨b, off + k * 6 + 1, none⟩) hb).trans x1
        have c2 := (hbw.cell (p := ⟨b, off + k * 6 + 2, none⟩) hb).trans x2
        have c3 := (hbw.cell (p := ⟨b, off + k * 6 + 3, none⟩) hb).trans x3
        have c4 := (hbw.cell (p := ⟨b, off + k * 6 + 4, none⟩) hb).trans x4
        have c5 := (hbw.cell (p := ⟨b, off + k * 6 + 5, none⟩) hb).trans x5
        clear x0 x1 x2 x3 x4 x5
        have hp0 := prv_nonneg (l := L) (k := k) (by omega) HB.out
        have HPS := Lib.hid (prv_succ L k)
        have HW : RvWf (L.getD k rv0) := by
          have hm : L.getD k rv0 ∈ L := by simp only [List.getD, List.getElem?_eq_getElem kl, Option.getD_some]; exact List.getElem_mem kl
          exact HWF.out _ hm
        have HN := Lib.hid (fun h => hst_no2 (l := L) kl h)
        have HS : Hid (hOk L k = true → ∀ j, j < k + 1 → hOk L j = true) := Lib.hid fun h j hj => by
          rcases Nat.lt_or_ge j k with h1 | h1
          · exact HB.out j h1
          · obtain rfl : j = k := by omega
            exact h
        have HO : Hid (hOk L k = (decide ((L.getD k rv0).num = k + 1) && decide ((L.getD k rv0).sq = 0) && isUs (L.getD k rv0).us && decide (prv L k ≤ (L.getD k rv0).mi) && decide ((L.getD k rv0).mi < 52596000))) := Lib.hid rfl
        have HP : Hid (0 < k → ∃ j : Nat, k = j + 1 ∧ wr.cell? ⟨b, off + j * 6 + 4, none⟩ = some (.int .i64 (prv L k)) ∧ prv L k < 52596000) := Lib.hid fun h0 => by
          obtain ⟨_, _, _, _, y4, _⟩ := HC.out (k - 1) (by omega)
          have e : prv L k = (L.getD (k - 1) rv0).mi := by unfold prv; rw [if_neg (by omega)]
          have h2 := HB.out (k - 1) (by omega)
          simp only [hOk, Bool.and_eq_true, decide_eq_true_eq] at h2
          rw [e]
          exact ⟨k - 1, by omega, (hbw.cell (p := ⟨b, off + (k - 1) * 6 + 4, none⟩) hb).trans y4, h2.2⟩
        have HP0 : Hid (¬ 0 < k → prv L k = 0) := Lib.hid fun h0 => by unfold prv; rw [if_pos (by omega)]
        clear HB
        clear HW
        generalize hOk L k = bo at *
        generalize hpz : prv L k = pz at *
        generalize L.getD k rv0 = r at *
        obtain ⟨num, us, nt, tx, mi, sq⟩ := r
        simp only [] at c0 c1 c2 c3 c4 c5 HO HPS
        have z0 : (0 : Int) ≤ (k : Int) := by omega
        have z1 : (k : Int) < (n : Int) := by omega
        have z2 : (k : Int) ≤ 40 := by omega
        have HBA : Hid (Below w.heap.size w (wr.alloc (.cells #[.int .i64 num, .string us, .string nt, .string tx, .int .i64 mi, .int .i64 sq] 67))) := Lib.hid (hbw.alloc hbw.size _)
        by_cases g1 : num = (k : Int) + 1
        · by_cases g2 : sq = 0
          · cases g3 : isUs us with
            | true =>
              by_cases g4 : pz ≤ mi
              · by_cases g5 : mi < 52596000
                · have HS2 := Lib.hid (HS.out (by rw [HO.out, decide_eq_true g1, decide_eq_true g2, g3, decide_eq_true g4, decide_eq_true g5]; rfl))
                  have e1 : (num == (k : Int) + 1) = true := by simpa using g1
                  have e1b : (num != (k : Int) + 1) = false := by simpa using g1
                  have e2 : (sq == 0) = true := by simpa using g2
                  have e2b : (sq != 0) = false := by simpa using g2
                  have e4 : ¬ mi < pz := by omega
                  have e5 : ¬ (52596000 : Int) ≤ mi := by omega
                  have e6 : ¬ (52595999 : Int) < mi := by omega
                  have e7 : ¬ mi < 0 := by omega
                  clear HS HN g1 g2 g4 g5 HO
                  by_cases hk0 : 0 < k
                  · obtain ⟨j, hj, cp, hpj⟩ := HP.out hk0
                    have v0 : (0 : Int) < (k : Int) := by omega
                    have v1 : (0 : Int) ≤ (j : Int) := by omega
                    have v2 : (j : Int) < (n : Int) := by omega
                    have v3 : IntKind.i64.wrap ((k : Int) - 1) = (j : Int) := by rw [IntKind.wrap_i64]; omega
                    clear hj
                    have cpa : (wr.alloc (.cells #[.int .i64 num, .string us, .string nt, .string tx, .int .i64 mi, .int .i64 sq] 67)).cell? ⟨b, off + j * 6 + 4, none⟩ = some (.int .i64 pz) := (World.cell?_alloc_some _ _ _ (by rw [cp]; rfl)).trans cp
                    clear HP HP0
                    have z9 : IntKind.i64.wrap ((k : Int) + 1) = (k : Int) + 1 := IntWalk.i64_in _ (by omega)
                    go_wp2_with fail
                    go_quiet ((go_at_call 55; exact Calls.quiet_of_same ((HU.out us _).mono fun e w' h => ⟨h.1, h.2.symm⟩)))
                    clear z9
                    go_wp2_with fail
                    go_roundw
                    case rel => exact ⟨k + 1, by omega, by go_num, below_drewN HBA.out _, HS2⟩
                    case measure => simp [intOf]; omega
                  · obtain rfl : k = 0 := by omega
                    have e8 : pz = 0 := HP0.out hk0
                    clear HP HP0 hk0
                    have n1 : (num == 1) = true := by simpa using e1
                    have n2 : (num != 1) = false := by simpa using e1b
                    simp only [Nat.zero_mul, Nat.add_zero] at c0 c1 c2 c3 c4 c5
                    have z3 : (0 : Int) < (n : Int) := by omega
                    clear e1 e1b z0 z1 z2
                    have z9 : IntKind.i64.wrap (1 : Int) = 1 := by decide
                    have z9b : IntKind.i64.wrap ((0 : Int) + 1) = 1 := by decide
                    go_wp2_with fail
                    refine wp_region_quiet_lit (by kernel_rfl) (by kernel_rfl) ?_
                    repeat (first | go_big_quiet_step ((go_at_call 55; exact Calls.quiet_of_same ((HU.out us _).mono fun e w' h => ⟨h.1, h.2.symm⟩))) | quiet_step ((go_at_call 55; exact Calls.quiet_of_same ((HU.out us _).mono fun e w' h => ⟨h.1, h.2.symm⟩))))
                    refine wpQuiet_nil ?_
                    intro _ hw'
                    obtain ⟨nq, hw''⟩ := hw'
                    subst hw''
                    clear z9 z9b
                    go_wp2_with fail
                    go_roundw
                    case rel => exact ⟨1, by omega, by go_num, below_drewN HBA.out _, HS2⟩
                    case measure => simp [intOf]; omega
                · have HF := Lib.hid (HN.out (by rw [HO.out, decide_eq_false g5, Bool.and_false]))
                  have e1 : (num == (k : Int) + 1) = true := by simpa using g1
                  have e1b : (num != (k : Int) + 1) = false := by simpa using g1
                  have e2 : (sq == 0) = true := by simpa using g2
                  have e2b : (sq != 0) = false := by simpa using g2
                  have e4 : ¬ mi < pz := by omega
                  have e5 : (52596000 : Int) ≤ mi := by omega
                  have e6 : (52595999 : Int) < mi := by omega
                  have e7 : ¬ mi < 0 := by omega
                  have e6d : decide ((52595999 : Int) < mi) = true := decide_eq_true e6
                  have e7d : decide (mi < 0) = false := decide_eq_false e7
                  clear HS HN g1 g2 g4 g5 HO
                  by_cases hk0 : 0 < k
                  · obtain ⟨j, hj, cp, hpj⟩ := HP.out hk0
                    have v0 : (0 : Int) < (k : Int) := by omega
                    have v1 : (0 : Int) ≤ (j : Int) := by omega
                    have v2 : (j : Int) < (n : Int) := by omega
                    have v3 : IntKind.i64.wrap ((k : Int) - 1) = (j : Int) := by rw [IntKind.wrap_i64]; omega
                    clear hj
                    have cpa : (wr.alloc (.cells #[.int .i64 num, .string us, .string nt, .string tx, .int .i64 mi, .int .i64 sq] 67)).cell? ⟨b, off + j * 6 + 4, none⟩ = some (.int .i64 pz) := (World.cell?_alloc_some _ _ _ (by rw [cp]; rfl)).trans cp
                    clear HP HP0
                    have z9 : IntKind.i64.wrap ((k : Int) + 1) = (k : Int) + 1 := IntWalk.i64_in _ (by omega)
                    go_wp2_with fail
                    go_quiet ((go_at_call 55; exact Calls.quiet_of_same ((HU.out us _).mono fun e w' h => ⟨h.1, h.2.symm⟩)))
                    clear z9
                    go_wp2_with fail
                    go_ret
                    exact ⟨by first | (rw [HF.out]; done) | (rw [HF.out]; rfl), below_drewN HBA.out _⟩
                  · have v0 : ¬ (0 : Int) < (k : Int) := by omega
                    have v0d : decide ((0 : Int) < (k : Int)) = false := decide_eq_false v0
                    have hp00 := HP0.out hk0
                    have e8 : pz = 0 := hp00
                    have v0e : decide (0 < k) = false := decide_eq_false hk0
                    clear HP HP0 hp00 hk0 v0
                    have z9 : IntKind.i64.wrap ((k : Int) + 1) = (k : Int) + 1 := IntWalk.i64_in _ (by omega)
                    go_wp2_with fail
                    go_quiet ((go_at_call 55; exact Calls.quiet_of_same ((HU.out us _).mono fun e w' h => ⟨h.1, h.2.symm⟩)))
                    clear z9
                    go_wp2_with fail
                    go_ret
                    exact ⟨by first | (rw [HF.out]; done) | (rw [HF.out]; rfl), below_drewN HBA.out _⟩
              · have HF := Lib.hid (HN.out (by rw [HO.out, decide_eq_false g4, Bool.and_false, Bool.false_and]))
                have e1 : (num == (k : Int) + 1) = true := by simpa using g1
                have e1b : (num != (k : Int) + 1) = false := by simpa using g1
                have e2 : (sq == 0) = true := by simpa using g2
                have e2b : (sq != 0) = false := by simpa using g2
                have e4 : mi < pz := by omega
                clear HS HN g1 g2 g4 HO
                by_cases hk0 : 0 < k
                · obtain ⟨j, hj, cp, hpj⟩ := HP.out hk0
                  have v0 : (0 : Int) < (k : Int) := by omega
                  have v1 : (0 : Int) ≤ (j : Int) := by omega
                  have v2 : (j : Int) < (n : Int) := by omega
                  have v3 : IntKind.i64.wrap ((k : Int) - 1) = (j : Int) := by rw [IntKind.wrap_i64]; omega
                  clear hj
                  have cpa : (wr.alloc (.cells #[.int .i64 num, .string us, .string nt, .string tx, .int .i64 mi, .int .i64 sq] 67)).cell? ⟨b, off + j * 6 + 4, none⟩ = some (.int .i64 pz) := (World.cell?_alloc_some _ _ _ (by rw [cp]; rfl)).trans cp
                  have e6 : ¬ (52595999 : Int) < mi := by omega
                  clear HP HP0
                  by_cases e7 : mi < 0
                  · have z9 : IntKind.i64.wrap ((k : Int) + 1) = (k : Int) + 1 := IntWalk.i64_in _ (by omega)
                    go_wp2_with fail
                    go_quiet ((go_at_call 55; exact Calls.quiet_of_same ((HU.out us _).mono fun e w' h => ⟨h.1, h.2.symm⟩)))
                    clear z9
                    go_wp2_with fail
                    go_ret
                    exact ⟨by first | (rw [HF.out]; done) | (rw [HF.out]; rfl), below_drewN HBA.out _⟩
                  · have z9 : IntKind.i64.wrap ((k : Int) + 1) = (k : Int) + 1 := IntWalk.i64_in _ (by omega)
                    go_wp2_with fail
                    go_quiet ((go_at_call 55; exact Calls.quiet_of_same ((HU.out us _).mono fun e w' h => ⟨h.1, h.2.symm⟩)))
                    clear z9
                    go_wp2_with fail
                    go_ret
                    exact ⟨by first | (rw [HF.out]; done) | (rw [HF.out]; rfl), below_drewN HBA.out _⟩
                · have v0 : ¬ (0 : Int) < (k : Int) := by omega
                  have e8 : pz = 0 := HP0.out hk0
                  have e7 : mi < 0 := by omega
                  clear HP HP0 e8
                  have z9 : IntKind.i64.wrap ((k : Int) + 1) = (k : Int) + 1 := IntWalk.i64_in _ (by omega)
                  go_wp2_with fail
                  go_quiet ((go_at_call 55; exact Calls.quiet_of_same ((HU.out us _).mono fun e w' h => ⟨h.1, h.2.symm⟩)))
                  clear z9
                  go_wp2_with fail
                  go_ret
                  exact ⟨by first | (rw [HF.out]; done) | (rw [HF.out]; rfl), below_drewN HBA.out _⟩
            | false =>
              have HF := Lib.hid (HN.out (by rw [HO.out, g3, Bool.and_false, Bool.false_and, Bool.false_and]))
              have e1 : (num == (k : Int) + 1) = true := by simpa using g1
              have e1b : (num != (k : Int) + 1) = false := by simpa using g1
              have e2 : (sq == 0) = true := by simpa using g2
              have e2b : (sq != 0) = false := by simpa using g2
              clear HS HN g1 g2 HO
              have z9 : IntKind.i64.wrap ((k : Int) + 1) = (k : Int) + 1 := IntWalk.i64_in _ (by omega)
              go_wp2_with fail
              go_quiet ((go_at_call 55; exact Calls.quiet_of_same ((HU.out us _).mono fun e w' h => ⟨h.1, h.2.symm⟩)))
              clear z9
              go_wp2_with fail
              go_ret
              exact ⟨by first | (rw [HF.out]; done) | (rw [HF.out]; rfl), below_drewN HBA.out _⟩
          · have HF := Lib.hid (HN.out (by rw [HO.out, decide_eq_false g2, Bool.and_false, Bool.false_and, Bool.false_and, Bool.false_and]))
            have e1 : (num == (k : Int) + 1) = true := by simpa using g1
            have e1b : (num != (k : Int) + 1) = false := by simpa using g1
            have e2 : (sq == 0) = false := by simpa using g2
            have e2b : (sq != 0) = true := by simpa using g2
            clear HS HN g1 g2 HO
            have z9 : IntKind.i64.wrap ((k : Int) + 1) = (k : Int) + 1 := IntWalk.i64_in _ (by omega)
            go_wp2_with fail
            go_quiet (fail)
            clear z9
            go_wp2_with fail
            go_ret
            exact ⟨by first | (rw [HF.out]; done) | (rw [HF.out]; rfl), below_drewN HBA.out _⟩
        · have HF := Lib.hid (HN.out (by rw [HO.out, decide_eq_false g1, Bool.false_and, Bool.false_and, Bool.false_and, Bool.false_and]))
          have e1 : (num == (k : Int) + 1) = false := by simpa using g1
          have e1b : (num != (k : Int) + 1) = true := by simpa using g1
          clear HS HN g1 HO
          have z9 : IntKind.i64.wrap ((k : Int) + 1) = (k : Int) + 1 := IntWalk.i64_in _ (by omega)
          go_wp2_with fail
          go_quiet (fail)
          clear z9
          go_wp2_with fail
          go_ret
          exact ⟨by first | (rw [HF.out]; done) | (rw [HF.out]; rfl), below_drewN HBA.out _⟩
      · obtain rfl : k = n := by omega
        have HF := Lib.hid (HY.out (by rw [← HL.out]; exact HB.out))
        go_wp2_with fail
        go_ret
        exact ⟨by first | (rw [HF.out]; done) | (rw [HF.out]; rfl), hbw⟩
  · have HF := Lib.hid (hst_no1 (l := L) (by rw [← HL.out]; exact hlen))
    by_cases h0 : n < 1
    · have z1 : (n : Int) < 1 := by omega
      clear hlen h
      go_enter Tryd.func56, Tryd.ntmps56
      go_wp2_with fail
      go_ret
      exact ⟨by first | (rw [HF.out]; done) | (rw [HF.out]; rfl), Below.refl _ _⟩
    · have z1 : ¬ (n : Int) < 1 := by omega
      have z2 : (40 : Int) < (n : Int) := by omega
      clear hlen h
      go_enter Tryd.func56, Tryd.ntmps56
      go_wp2_with fail
      go_ret
      exact ⟨by first | (rw [HF.out]; done) | (rw [HF.out]; rfl), Below.refl _ _⟩
end Go.Proofs.YtbeijpajodgpeaaDoor
