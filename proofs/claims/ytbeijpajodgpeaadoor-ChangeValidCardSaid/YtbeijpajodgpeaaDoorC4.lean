/- The walks of history, both. Printed by gen_c4.py -/
import Derived.Test.YtbeijpajodgpeaaDoorC2
import Derived.Test.YtbeijpajodgpeaaDoorCR
import Derived.BigQuiet
import Derived.Deep.QuietTactic
namespace Go.Proofs.YtbeijpajodgpeaaDoor
open Go.RowKit
set_option linter.unusedSimpArgs false
set_option linter.unusedVariables false

theorem hst_no1 {l : List Rv} (h : ¬ (1 ≤ l.length ∧ l.length ≤ 40)) : hst l = false := by unfold hst; rw [decide_eq_false h]; rfl
theorem hst_no2 {l : List Rv} {k : Nat} (hk : k < l.length) (h : hOk l k = false) : hst l = false := by
  unfold hst
  rw [Bool.and_eq_false_iff]
  exact .inr (List.all_eq_false.2 ⟨k, List.mem_range.2 hk, by rw [h]; decide⟩)
theorem hst_yes {l : List Rv} (h1 : 1 ≤ l.length ∧ l.length ≤ 40) (h2 : ∀ j, j < l.length → hOk l j = true) : hst l = true := by
  unfold hst
  rw [decide_eq_true h1, List.all_eq_true.2 fun j hj => h2 j (List.mem_range.1 hj)]
  rfl
theorem prv_succ (l : List Rv) (k : Nat) : prv l (k + 1) = (l.getD k rv0).mi := by unfold prv; rw [if_neg (by omega)]; rfl
theorem prv_nonneg {l : List Rv} {k : Nat} (hk : k ≤ l.length) (h : ∀ j, j < k → hOk l j = true) : 0 ≤ prv l k := by
  induction k with
  | zero => exact Int.le_refl _
  | succ k ih =>
    have h1 := ih (by omega) fun j hj => h j (by omega)
    have h2 := h k (by omega)
    simp only [hOk, Bool.and_eq_true, decide_eq_true_eq] at h2
    rw [prv_succ]
    omega
set_option maxRecDepth 100000 in
set_option maxHeartbeats 40000000 in
theorem history_any (A : Option Addr) (n c : Nat) (L : List Rv) (w : World) (h : RdR RV 6 w A n c L) (hwf : ∀ r ∈ L, RvWf r) :
    Calls Tryd.prog 51 #[.slice A n c] w fun e w' => e = .returned (.bool (hst L)) ∧ Below w.heap.size w w' := by
  have hub : ∀ b : Bool, (some undef = some (Value.bool b)) = False := fun b => by simp [undef]
  have hub2 : ∀ b : Bool, (undef = Value.bool b) = False := fun b => by simp [undef]
  have HL := Lib.hid h.len
  by_cases hlen : 1 ≤ n ∧ n ≤ 40
  · obtain ⟨hn1, hn2⟩ := hlen
    obtain ⟨b, off, rfl, hb, hc⟩ := RdV.opened h (by omega)
    have HC := Lib.hid hc
    have HU := Lib.hid isuser_any
    have HY := Lib.hid (fun h => hst_yes (l := L) ⟨by rw [← HL.out]; exact hn1, by rw [← HL.out]; exact hn2⟩ h)
    have HWF := Lib.hid hwf
    clear hc h hwf
    have s1 : ¬ (n : Int) < 1 := by omega
    have s2 : ¬ (40 : Int) < (n : Int) := by omega
    go_enter Tryd.func51, Tryd.ntmps51
    go_wp2_with fail
    go_loopw [3, 16] (fun m v wr => ∃ k : Nat, k ≤ n ∧ m = .int .i64 (prv L k) ∧ v = .int .i64 k ∧ Below w.heap.size w wr ∧ Hid (∀ j, j < k → hOk L j = true)) (fun m v _ => n - (intOf v).toNat)
    case atStart => exact ⟨0, Nat.zero_le _, rfl, rfl, Below.refl _ _, Lib.hid fun j h => by omega⟩
    case round =>
      obtain ⟨k, hk, rfl, rfl, hbw, HB⟩ := hrel
      clear s1 s2
      by_cases hlt : k < n
      · obtain ⟨x0, x1, x2, x3, x4, x5⟩ := HC.out k hlt
        have kl : k < L.length := by rw [← HL.out]; exact hlt
        have c0 := (hbw.cell (p := ⟨b, off + k * 6, none⟩) hb).trans x0
        have c1 := (hbw.cell (p := ⟨b, off + k * 6 + 1, none⟩) hb).trans x1
        have c2 := (hbw.cell (p := ⟨b, off + k * 6 + 2, none⟩) hb).trans x2
        have c3 := (hbw.cell (p := ⟨b, off + k * 6 + 3, none⟩) hb).trans x3
        have c4 := (hbw.cell (p := ⟨b, off + k * 6 + 4, none⟩) hb).trans x4
        have c5 := (hbw.cell (p := ⟨b, off + k * 6 + 5, none⟩) hb).trans x5
        clear x0 x1 x2 x3 x4 x5
        have hp0 := prv_nonneg (l := L) (k := k) (by omega) HB.out
        have HPS := Lib.hid (prv_succ L k)
        have HW : RvWf (L.getD k rv0) := by
          have hm : L.getD k rv0 ∈ L := by simp only [List.getD, List.getElem?_eq_getElem kl, Option.getD_some]; exact List.getElem_mem kl
          exact HWF.out _ hm
        have HN := Lib.hid (fun h => hst_no2 (l := L) kl h)
        have HS : Hid (hOk L k = true → ∀ j, j < k + 1 → hOk L j = true) := Lib.hid fun h j hj => by
          rcases Nat.lt_or_ge j k with h1 | h1
          · exact HB.out j h1
          · obtain rfl : j = k := by omega
            exact h
        have HO : Hid (hOk L k = (decide ((L.getD k rv0).num = k + 1) && decide ((L.getD k rv0).sq = 0) && isUs (L.getD k rv0).us && decide (prv L k ≤ (L.getD k rv0).mi) && decide ((L.getD k rv0).mi < 52596000))) := Lib.hid rfl
        clear HB
        clear HW
        generalize hOk L k = bo at *
        generalize hpz : prv L k = pz at *
        generalize L.getD k rv0 = r at *
        obtain ⟨num, us, nt, tx, mi, sq⟩ := r
        simp only [] at c0 c1 c2 c3 c4 c5 HO HPS
        have z0 : (0 : Int) ≤ (k : Int) := by omega
        have z1 : (k : Int) < (n : Int) := by omega
        have z2 : (k : Int) ≤ 40 := by omega
        have HBA : Hid (Below w.heap.size w (wr.alloc (.cells #[.int .i64 num, .string us, .string nt, .string tx, .int .i64 mi, .int .i64 sq] 67))) := Lib.hid (hbw.alloc hbw.size _)
        by_cases g1 : num = (k : Int) + 1
        · by_cases g2 : sq = 0
          · cases g3 : isUs us with
            | true =>
              by_cases g4 : pz ≤ mi
              · by_cases g5 : mi < 52596000
                · have HS2 := Lib.hid (HS.out (by rw [HO.out, decide_eq_true g1, decide_eq_true g2, g3, decide_eq_true g4, decide_eq_true g5]; rfl))
                  have e1 : (num == (k : Int) + 1) = true := by simpa using g1
                  have e1b : (num != (k : Int) + 1) = false := by simpa using g1
                  have e2 : (sq == 0) = true := by simpa using g2
                  have e2b : (sq != 0) = false := by simpa using g2
                  have e4 : ¬ mi < pz := by omega
                  have e5 : ¬ (52596000 : Int) ≤ mi := by omega
                  have e6 : ¬ (52595999 : Int) < mi := by omega
                  have e7 : ¬ mi < 0 := by omega
                  clear HS HN g1 g2 g4 g5 HO
                  go_wp2_with (go_at_call 49; refine (HU.out us _).mono ?_; rintro e wn ⟨rfl, rfl⟩)
                  go_roundw
                  case rel => exact ⟨k + 1, by omega, by rw [HPS.out], by go_num, HBA.out, HS2⟩
                  case measure => simp [intOf]; omega
                · have HF := Lib.hid (HN.out (by rw [HO.out, decide_eq_false g5, Bool.and_false]))
                  have e1 : (num == (k : Int) + 1) = true := by simpa using g1
                  have e1b : (num != (k : Int) + 1) = false := by simpa using g1
                  have e2 : (sq == 0) = true := by simpa using g2
                  have e2b : (sq != 0) = false := by simpa using g2
                  have e4 : ¬ mi < pz := by omega
                  have e5 : (52596000 : Int) ≤ mi := by omega
                  have e6 : (52595999 : Int) < mi := by omega
                  have e7 : ¬ mi < 0 := by omega
                  have e6d : decide ((52595999 : Int) < mi) = true := decide_eq_true e6
                  have e7d : decide (mi < 0) = false := decide_eq_false e7
                  clear HS HN g1 g2 g4 g5 HO
                  go_wp2_with (go_at_call 49; refine (HU.out us _).mono ?_; rintro e wn ⟨rfl, rfl⟩)
                  go_ret
                  exact ⟨by first | (rw [HF.out]; done) | (rw [HF.out]; rfl), HBA.out⟩
              · have HF := Lib.hid (HN.out (by rw [HO.out, decide_eq_false g4, Bool.and_false, Bool.false_and]))
                have e1 : (num == (k : Int) + 1) = true := by simpa using g1
                have e1b : (num != (k : Int) + 1) = false := by simpa using g1
                have e2 : (sq == 0) = true := by simpa using g2
                have e2b : (sq != 0) = false := by simpa using g2
                have e4 : mi < pz := by omega
                clear HS HN g1 g2 g4 HO
                go_wp2_with (go_at_call 49; refine (HU.out us _).mono ?_; rintro e wn ⟨rfl, rfl⟩)
                go_ret
                exact ⟨by first | (rw [HF.out]; done) | (rw [HF.out]; rfl), HBA.out⟩
            | false =>
              have HF := Lib.hid (HN.out (by rw [HO.out, g3, Bool.and_false, Bool.false_and, Bool.false_and]))
              have e1 : (num == (k : Int) + 1) = true := by simpa using g1
              have e1b : (num != (k : Int) + 1) = false := by simpa using g1
              have e2 : (sq == 0) = true := by simpa using g2
              have e2b : (sq != 0) = false := by simpa using g2
              clear HS HN g1 g2 HO
              go_wp2_with (go_at_call 49; refine (HU.out us _).mono ?_; rintro e wn ⟨rfl, rfl⟩)
              go_ret
              exact ⟨by first | (rw [HF.out]; done) | (rw [HF.out]; rfl), HBA.out⟩
          · have HF := Lib.hid (HN.out (by rw [HO.out, decide_eq_false g2, Bool.and_false, Bool.false_and, Bool.false_and, Bool.false_and]))
            have e1 : (num == (k : Int) + 1) = true := by simpa using g1
            have e1b : (num != (k : Int) + 1) = false := by simpa using g1
            have e2 : (sq == 0) = false := by simpa using g2
            have e2b : (sq != 0) = true := by simpa using g2
            clear HS HN g1 g2 HO
            go_wp2_with fail
            go_ret
            exact ⟨by first | (rw [HF.out]; done) | (rw [HF.out]; rfl), HBA.out⟩
        · have HF := Lib.hid (HN.out (by rw [HO.out, decide_eq_false g1, Bool.false_and, Bool.false_and, Bool.false_and, Bool.false_and]))
          have e1 : (num == (k : Int) + 1) = false := by simpa using g1
          have e1b : (num != (k : Int) + 1) = true := by simpa using g1
          clear HS HN g1 HO
          go_wp2_with fail
          go_ret
          exact ⟨by first | (rw [HF.out]; done) | (rw [HF.out]; rfl), HBA.out⟩
      · obtain rfl : k = n := by omega
        have HF := Lib.hid (HY.out (by rw [← HL.out]; exact HB.out))
        go_wp2_with fail
        go_ret
        exact ⟨by first | (rw [HF.out]; done) | (rw [HF.out]; rfl), hbw⟩
  · have HF := Lib.hid (hst_no1 (l := L) (by rw [← HL.out]; exact hlen))
    by_cases h0 : n < 1
    · have z1 : (n : Int) < 1 := by omega
      clear hlen h
      go_enter Tryd.func51, Tryd.ntmps51
      go_wp2_with fail
      go_ret
      exact ⟨by first | (rw [HF.out]; done) | (rw [HF.out]; rfl), Below.refl _ _⟩
    · have z1 : ¬ (n : Int) < 1 := by omega
      have z2 : (40 : Int) < (n : Int) := by omega
      clear hlen h
      go_enter Tryd.func51, Tryd.ntmps51
      go_wp2_with fail
      go_ret
      exact ⟨by first | (rw [HF.out]; done) | (rw [HF.out]; rfl), Below.refl _ _⟩
end Go.Proofs.YtbeijpajodgpeaaDoor
