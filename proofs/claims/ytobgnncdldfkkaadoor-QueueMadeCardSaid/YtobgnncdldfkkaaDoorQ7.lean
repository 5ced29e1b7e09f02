/- The walk of trcref1.Valid. -/
import Derived.Test.YtobgnncdldfkkaaDoorQ6
namespace Go.Proofs.YtobgnncdldfkkaaDoor
open Go.RowKit
set_option linter.unusedSimpArgs false
set_option linter.unusedVariables false

set_option maxRecDepth 100000 in
set_option maxHeartbeats 4000000 in
theorem rtitle_any (x : Int) (s : ByteArray) (w : World) :
    Calls Tryd.prog 44 #[.agg #[.int .i64 x, .string s]] w fun e w' => e = .returned (.bool (tv x s)) ∧ Below w.heap.size w w' := by
  by_cases h : 0 ≤ x ∧ x < 6 ∧ 1 ≤ s.size ∧ s.size ≤ 100
  · have hT := tv_eq h
    obtain ⟨h1, h2, h3, h4⟩ := h
    have q1' : ¬ x < 0 := by omega
    have q2' : ¬ 6 ≤ x := by omega
    have q3' : ¬ (s.size : Int) < 1 := by omega
    have q4' : ¬ (100 : Int) < (s.size : Int) := by omega
    have HPA := Lib.hid fun W => parts_any s W (by omega)
    have HP := Lib.hid fun (W : World) => prefixed_any s W (by omega)
    have HT0 : Hid (cln s = false → tv x s = false) := Lib.hid fun h => by rw [hT, h]; rfl
    have HT1 : Hid (cln s = true → tv x s = (true && !(PC s).any badP && !(s[0] == 58 || (decide (97 ≤ s[0].toNat) && decide (s[0].toNat ≤ 122))) && (decide (x ≠ 0) || !nmd (bl s)))) := Lib.hid fun h => by rw [hT, h]
    clear hT
    go_enter Tryd.func44, Tryd.ntmps44
    go_wp2
    go_loopw [4] (fun v wr => ∃ k : Nat, k ≤ s.size ∧ v = .int .i64 k ∧ Below w.heap.size w wr ∧ w.heap.size < wr.heap.size ∧ wr.heap[w.heap.size]? = some (.cells #[.int .i64 x, .string s] 26 (0, 0)) ∧ Hid (∀ j, j < k → badAt s j = false)) (fun v _ => s.size - (intOf v).toNat)
    case atStart => exact ⟨0, Nat.zero_le _, rfl, by (refine bel_out ?_; (focus (repeat' first | (with_reducible refine bel_refl ?_) | with_reducible assumption | with_reducible refine bel_drew ?_ | with_reducible refine bel_drewN _ ?_ | with_reducible refine bel_alloc _ ?_ | with_reducible refine bel_set ?_ _ ?_ | (with_reducible apply bel_call; with_reducible assumption) | (with_reducible apply bel_owg; with_reducible assumption; (focus omega)) | with_reducible exact Nat.le_refl _ | omega | (simp; done) | (simp; omega)))), by simp, by (focus (repeat' first | with_reducible assumption | (with_reducible refine heap_drew ?_) | (with_reducible refine heap_drewN ?_) | (with_reducible refine heap_new ?_; focus (first | rfl | omega | (simp; done))) | (with_reducible refine heap_old ?_) | (with_reducible apply heap_near') | ((with_reducible show Array.setIfInBounds _ _ _ = _); rfl) | (with_reducible refine heap_far ?_ ?_; focus (first | omega | (simp; omega) | (simp; done))) | (with_reducible apply heap_grown; with_reducible assumption; (focus (first | omega | (simp; omega)))) | (with_reducible apply heap_call; with_reducible assumption))), Lib.hid fun j h => by omega⟩
    case round =>
      obtain ⟨k, hk, rfl, hbw, hzw, hx2, HB⟩ := hrel
      have k0 := Blk.cell hx2 0
      have k1 := Blk.cell hx2 1
      by_cases hlt : k < s.size
      · have HC : Hid (∀ W : World, Calls Tryd.prog 47 #[.string ⟨#[60, 62, 91, 93, 123, 125, 124, 35, 95]⟩, .string (s.extract k (k + 1)), .int .i64 0] W fun e w' => e = .returned (.int .i64 (Lib.index setB [s[k]])) ∧ w' = W) := Lib.hid fun W => by
          have h := index_any ⟨#[60, 62, 91, 93, 123, 125, 124, 35, 95]⟩ (s.extract k (k + 1)) W (by decide) (by rw [extract_one hlt, bB_size]; simp) (by rw [extract_one hlt, bB_size]; simp)
          have e : bl (s.extract k (k + 1)) = [s[k]] := by rw [extract_one hlt]; rfl
          rw [e] at h
          exact h
        have hS := set_index s[k]
        have hE := badAt_eq hlt
        unfold badC at hE
        generalize Lib.index setB [s[k]] = i at HC hS
        have z0 : (0 : Int) ≤ (k : Int) := by omega
        have z1 : (k : Int) < (s.size : Int) := by omega
        by_cases e1 : s[k].toNat < 32
        · have HR : Hid (tv x s = false) := Lib.hid (HT0.out (cln_bad hlt (by rw [hE]; simp [e1])))
          have q1 : (s[k].toNat : Int) < 32 := by omega
          clear HC hS hE HB
          go_wp2
          go_ret
          exact ⟨by rw [HR.out]; rfl, hbw⟩
        have q1 : ¬ (s[k].toNat : Int) < 32 := by omega
        by_cases e2 : s[k] = 127
        · have HR : Hid (tv x s = false) := Lib.hid (HT0.out (cln_bad hlt (by rw [hE]; simp [e2])))
          have q2 : ((s[k].toNat : Int) == 127) = true := by rw [e2]; rfl
          clear HC hS hE HB e2
          go_wp2
          go_ret
          exact ⟨by rw [HR.out]; rfl, hbw⟩
        have q2 : ((s[k].toNat : Int) == 127) = false := (@u8_eq s[k] 127).trans (decide_eq_false e2)
        by_cases e3 : 0 ≤ i
        · have HR : Hid (tv x s = false) := Lib.hid (HT0.out (cln_bad hlt (by rw [hE, hS.1 e3]; simp)))
          clear hS hE HB e2
          go_wp2_with (go_at_call 47; refine (HC.out _).mono ?_; rintro e w2 ⟨rfl, hwn⟩; obtain rfl := hwn.symm)
          go_ret
          exact ⟨by rw [HR.out]; rfl, hbw⟩
        have e3' : setB.contains s[k] = false := by
          cases e : setB.contains s[k] with
          | false => rfl
          | true => exact absurd (hS.2 e) e3
        have e2' : (s[k] == 127) = false := by simpa using e2
        rw [e3', e2', decide_eq_false e1, Bool.false_or, Bool.false_or, Bool.false_or] at hE
        clear hS e2' e3' e2
        by_cases e4 : s[k] = 32
        · have q4 : ((s[k].toNat : Int) == 32) = true := by rw [e4]; rfl
          by_cases e5 : 0 < k
          · have q5 : (0 : Int) < (k : Int) := by omega
            have z2 : (k : Int) - 1 < (s.size : Int) := by omega
            have z3 : (0 : Int) ≤ (k : Int) - 1 := by omega
            have z4 : ((k : Int) - 1).toNat = k - 1 := by omega
            by_cases e6 : s[k - 1] = 32
            · have HR : Hid (tv x s = false) := Lib.hid (HT0.out (cln_bad hlt (by rw [hE]; simp [e4, e5, e6])))
              have q6 : ((s[k - 1].toNat : Int) == 32) = true := by rw [e6]; rfl
              clear hE HB e4 e6
              go_wp2_with (go_at_call 47; refine (HC.out _).mono ?_; rintro e w2 ⟨rfl, hwn⟩; obtain rfl := hwn.symm)
              go_ret
              exact ⟨by rw [HR.out]; rfl, hbw⟩
            · have HN : Hid (∀ j, j < k + 1 → badAt s j = false) := Lib.hid (cln_next HB.out (by rw [hE]; simp [e6]))
              have q6 : ((s[k - 1].toNat : Int) == 32) = false := (@u8_eq s[k - 1] 32).trans (decide_eq_false e6)
              clear hE HB e4 e6
              go_wp2_with (go_at_call 47; refine (HC.out _).mono ?_; rintro e w2 ⟨rfl, hwn⟩; obtain rfl := hwn.symm)
              go_roundw
              case rel => exact ⟨k + 1, by omega, by go_num, hbw, hzw, hx2, HN⟩
              case measure => simp [intOf]; omega
          · have HN : Hid (∀ j, j < k + 1 → badAt s j = false) := Lib.hid (cln_next HB.out (by rw [hE]; simp [e5]))
            have q5 : ¬ (0 : Int) < (k : Int) := by omega
            clear hE HB e4
            go_wp2_with (go_at_call 47; refine (HC.out _).mono ?_; rintro e w2 ⟨rfl, hwn⟩; obtain rfl := hwn.symm)
            go_roundw
            case rel => exact ⟨k + 1, by omega, by go_num, hbw, hzw, hx2, HN⟩
            case measure => simp [intOf]; omega
        · have HN : Hid (∀ j, j < k + 1 → badAt s j = false) := Lib.hid (cln_next HB.out (by rw [hE]; simp [e4]))
          have q4 : ((s[k].toNat : Int) == 32) = false := (@u8_eq s[k] 32).trans (decide_eq_false e4)
          clear hE HB e4
          go_wp2_with (go_at_call 47; refine (HC.out _).mono ?_; rintro e w2 ⟨rfl, hwn⟩; obtain rfl := hwn.symm)
          go_roundw
          case rel => exact ⟨k + 1, by omega, by go_num, hbw, hzw, hx2, HN⟩
          case measure => simp [intOf]; omega
      · obtain rfl : k = s.size := by omega
        have HT := Lib.hid (HT1.out (cln_good HB.out))
        clear HT0 HT1 HB
        have hN := PCt_pos s s.size
        rw [PCt_all] at hN
        have HF1 : Hid (∀ W W2 : World, Below w.heap.size w W → Below W.heap.size W W2 → Below w.heap.size w W2) := Lib.hid fun W W2 h1 h2 => below_call h1 h2
        go_wp2_with (go_at_call 48; refine (HPA.out _).mono ?_; rintro e w2 ⟨A, c, rfl, ho, hb2⟩)
        obtain ⟨g, rfl, hg0, hg1⟩ := OwS.block ho hN
        have HK : Hid (∀ k, k < (PC s).length → w2.cell? ⟨g, k, none⟩ = some (.string ((PC s).getD k ByteArray.empty))) := Lib.hid fun k hk => (OwS.cellAt ho hk).1
        have hle := PC_len s
        have HA : Hid (∀ k, k < (PC s).length → badP ((PC s).getD k ByteArray.empty) = true → (PC s).any badP = true) := Lib.hid fun k hk h => any_bad hk h
        have HG : Hid ((∀ k, k < (PC s).length → badP ((PC s).getD k ByteArray.empty) = false) → (PC s).any badP = false) := Lib.hid any_good
        have HSM : Hid (∀ k, ((PC s).getD k ByteArray.empty).size ≤ 100) := Lib.hid fun k => by rw [← PCt_all]; exact Nat.le_trans (PCt_small k) h4
        have hb02 := HF1.out _ _ hbw hb2
        have hzw2 : w.heap.size < w2.heap.size := Nat.lt_of_lt_of_le hzw hb2.size
        have k02 := (hb2.cell (p := ⟨w.heap.size, 0, none⟩) hzw).trans k0
        clear HPA k0 k1 hx2 hbw hb2 hzw ho HF1 hg0
        have k0 := k02
        clear k02
        generalize nmd (bl s) = nm at *
        generalize (PC s).any badP = anb at *
        generalize PC s = L at *
        generalize hN2 : L.length = N at *
        clear hN2
        obtain ⟨w5, hw5⟩ : ∃ q, q = wr := ⟨_, rfl⟩
        clear hw5
        clear w5
        go_loopw [6] (fun v wq => ∃ k : Nat, k ≤ N ∧ v = .int .i64 k ∧ Below w2.heap.size w2 wq ∧ Hid (∀ j, j < k → badP (L.getD j ByteArray.empty) = false)) (fun v _ => N - (intOf v).toNat)
        case atStart => exact ⟨0, Nat.zero_le _, rfl, Below.refl _ _, Lib.hid fun j h => by omega⟩
        case round =>
          obtain ⟨k, hk, rfl, hbq, HB⟩ := hrel
          by_cases hlt : k < N
          · have c1 := (hbq.cell (p := ⟨g, k, none⟩) hg1).trans (HK.out k hlt)
            have HA1 := Lib.hid (HA.out k hlt)
            have HN : Hid (badP (L.getD k ByteArray.empty) = false → ∀ j, j < k + 1 → badP (L.getD j ByteArray.empty) = false) := Lib.hid fun h j hj => by
              rcases Nat.lt_or_ge j k with h1 | h1
              · exact HB.out j h1
              · obtain rfl : j = k := by omega
                exact h
            have z0 : (0 : Int) ≤ (k : Int) := by omega
            have z1 : (k : Int) < (N : Int) := by omega
            have z8 := HSM.out k
            generalize L.getD k ByteArray.empty = p at *
            clear HA HG HB HK HSM
            by_cases e1 : p.size = 0
            · have HR : Hid (tv x s = false) := Lib.hid (by rw [HT.out, HA1.out (by unfold badP; rw [dif_neg (by omega)])]; rfl)
              obtain rfl : p = ByteArray.empty := by
                apply ByteArray.ext
                apply Array.eq_empty_of_size_eq_zero
                exact e1
              go_wp2_with fail
              go_quiet (fail)
              go_wp2
              go_ret
              exact ⟨by rw [HR.out]; rfl, below_drewN (below_call hb02 hbq) _⟩
            · obtain ⟨r, hr⟩ : ∃ r, r = p.size - 1 := ⟨_, rfl⟩
              have z7 : r < p.size := by omega
              have z3 : 0 < p.size := by omega
              have hE : badP p = (p[0] == 32 || p[r] == 32) := by subst hr; exact badP_eq (p := p) (by omega)
              have hn1 : ¬ p = ByteArray.empty := fun e => e1 (by rw [e]; rfl)
              have q5a : ¬ p.toList = [] := fun e => hn1 (by rw [ByteArray.toList_eq] at e; exact ByteArray.ext (Array.toList_inj.1 e))
              have q5 : p.toList.isEmpty = false := by simpa using q5a
              have z2 : (0 : Int) < (p.size : Int) := by omega
              have z4 : (p.size : Int) - 1 = (r : Int) := by omega
              have z5 : (0 : Int) ≤ (r : Int) := by omega
              have z6 : (r : Int) < (p.size : Int) := by omega
              have z9 : IntKind.i64.wrap (r : Int) = (r : Int) := IntWalk.i64_in _ (by omega)
              clear hn1 hr
              by_cases e2 : p[0] = 32
              · have HR : Hid (tv x s = false) := Lib.hid (by rw [HT.out, HA1.out (by rw [hE, e2]; rfl)]; rfl)
                have q6 : ((p[0].toNat : Int) == 32) = true := by rw [e2]; rfl
                clear hE e2
                go_wp2_with fail
                go_quiet (fail)
                go_wp2
                go_ret
                exact ⟨by rw [HR.out]; rfl, below_drewN (below_call hb02 hbq) _⟩
              have q6 : ((p[0].toNat : Int) == 32) = false := (@u8_eq p[0] 32).trans (decide_eq_false e2)
              by_cases e3 : p[r] = 32
              · have HR : Hid (tv x s = false) := Lib.hid (by rw [HT.out, HA1.out (by rw [hE, e3]; simp)]; rfl)
                have q7 : ((p[r].toNat : Int) == 32) = true := by rw [e3]; rfl
                clear hE e2 e3
                go_wp2_with fail
                go_quiet (fail)
                go_wp2
                go_ret
                exact ⟨by rw [HR.out]; rfl, below_drewN (below_call hb02 hbq) _⟩
              have q7 : ((p[r].toNat : Int) == 32) = false := (@u8_eq p[r] 32).trans (decide_eq_false e3)
              have HN2 := Lib.hid (HN.out (by rw [hE]; simp [e2, e3]))
              clear hE e2 e3 HN HA1
              go_wp2_with fail
              go_quiet (fail)
              go_wp2
              go_roundw
              case rel => exact ⟨k + 1, by omega, by go_num, below_drewN hbq _, HN2⟩
              case measure => simp [intOf]; omega
          · obtain rfl : k = N := by omega
            have HR : Hid (anb = false) := Lib.hid (HG.out HB.out)
            have z0 : 0 < s.size := by omega
            have z1 : (0 : Int) < (s.size : Int) := by omega
            clear HK HA HG HB
            by_cases e1 : s[0] = 58
            · have HR2 : Hid (tv x s = false) := Lib.hid (by rw [HT.out, HR.out, e1]; simp)
              have q5 : ((s[0].toNat : Int) == 58) = true := by rw [e1]; rfl
              clear e1
              go_wp2_with fail
              go_ret
              exact ⟨by rw [HR2.out]; rfl, below_call hb02 hbq⟩
            have q5 : ((s[0].toNat : Int) == 58) = false := (@u8_eq s[0] 58).trans (decide_eq_false e1)
            by_cases e2 : 97 ≤ s[0].toNat
            · have q6 : (97 : Int) ≤ (s[0].toNat : Int) := by omega
              by_cases e3 : s[0].toNat ≤ 122
              · have q7 : (s[0].toNat : Int) ≤ 122 := by omega
                have HR2 : Hid (tv x s = false) := Lib.hid (by rw [HT.out, HR.out]; simp [e2, e3])
                clear e1
                go_wp2_with fail
                go_ret
                exact ⟨by rw [HR2.out]; rfl, below_call hb02 hbq⟩
              have q7 : ¬ (s[0].toNat : Int) ≤ 122 := by omega
              have HR2 : Hid (tv x s = (decide (x ≠ 0) || !nm)) := Lib.hid (by rw [HT.out, HR.out]; simp [e1, e2, e3])
              clear e1
              by_cases e4 : x = 0
              · subst e4
                have HR3 : Hid (tv 0 s = !nm) := Lib.hid (by rw [HR2.out]; simp)
                go_wp2_with (go_at_call 49; refine (HP.out _).mono ?_; rintro e w3 ⟨⟨pa, pb, rfl, hpa⟩, hb3⟩; have k3 := (hb3.cell (p := ⟨w.heap.size, 0, none⟩) (Nat.lt_of_lt_of_le hzw2 hbq.size)).trans ((hbq.cell (p := ⟨w.heap.size, 0, none⟩) hzw2).trans k0))
                go_ret
                exact ⟨by rw [HR3.out]; rfl, below_call (below_call hb02 hbq) hb3⟩
              · have q8 : (x == 0) = false := by simpa using e4
                have HR3 : Hid (tv x s = true) := Lib.hid (by rw [HR2.out]; simp [e4])
                go_wp2_with (go_at_call 49; refine (HP.out _).mono ?_; rintro e w3 ⟨⟨pa, pb, rfl, hpa⟩, hb3⟩; have k3 := (hb3.cell (p := ⟨w.heap.size, 0, none⟩) (Nat.lt_of_lt_of_le hzw2 hbq.size)).trans ((hbq.cell (p := ⟨w.heap.size, 0, none⟩) hzw2).trans k0))
                go_ret
                exact ⟨by rw [HR3.out]; rfl, below_call (below_call hb02 hbq) hb3⟩
            have q6 : ¬ (97 : Int) ≤ (s[0].toNat : Int) := by omega
            have HR2 : Hid (tv x s = (decide (x ≠ 0) || !nm)) := Lib.hid (by rw [HT.out, HR.out]; simp [e1, e2])
            clear e1
            by_cases e4 : x = 0
            · subst e4
              have HR3 : Hid (tv 0 s = !nm) := Lib.hid (by rw [HR2.out]; simp)
              go_wp2_with (go_at_call 49; refine (HP.out _).mono ?_; rintro e w3 ⟨⟨pa, pb, rfl, hpa⟩, hb3⟩; have k3 := (hb3.cell (p := ⟨w.heap.size, 0, none⟩) (Nat.lt_of_lt_of_le hzw2 hbq.size)).trans ((hbq.cell (p := ⟨w.heap.size, 0, none⟩) hzw2).trans k0))
              go_ret
              exact ⟨by rw [HR3.out]; rfl, below_call (below_call hb02 hbq) hb3⟩
            · have q8 : (x == 0) = false := by simpa using e4
              have HR3 : Hid (tv x s = true) := Lib.hid (by rw [HR2.out]; simp [e4])
              go_wp2_with (go_at_call 49; refine (HP.out _).mono ?_; rintro e w3 ⟨⟨pa, pb, rfl, hpa⟩, hb3⟩; have k3 := (hb3.cell (p := ⟨w.heap.size, 0, none⟩) (Nat.lt_of_lt_of_le hzw2 hbq.size)).trans ((hbq.cell (p := ⟨w.heap.size, 0, none⟩) hzw2).trans k0))
              go_ret
              exact ⟨by rw [HR3.out]; rfl, below_call (below_call hb02 hbq) hb3⟩
  · have hT : Hid (tv x s = false) := Lib.hid (by unfold tv; rw [dif_neg h])
    by_cases h1 : x < 0
    · go_enter Tryd.func44, Tryd.ntmps44
      go_wp2_with fail
      go_ret
      exact ⟨by rw [hT.out]; rfl, by (refine bel_out ?_; (focus (repeat' first | (with_reducible refine bel_refl ?_) | with_reducible assumption | with_reducible refine bel_drew ?_ | with_reducible refine bel_drewN _ ?_ | with_reducible refine bel_alloc _ ?_ | with_reducible refine bel_set ?_ _ ?_ | (with_reducible apply bel_call; with_reducible assumption) | (with_reducible apply bel_owg; with_reducible assumption; (focus omega)) | with_reducible exact Nat.le_refl _ | omega | (simp; done) | (simp; omega))))⟩
    by_cases h2 : 6 ≤ x
    · go_enter Tryd.func44, Tryd.ntmps44
      go_wp2_with fail
      go_ret
      exact ⟨by rw [hT.out]; rfl, by (refine bel_out ?_; (focus (repeat' first | (with_reducible refine bel_refl ?_) | with_reducible assumption | with_reducible refine bel_drew ?_ | with_reducible refine bel_drewN _ ?_ | with_reducible refine bel_alloc _ ?_ | with_reducible refine bel_set ?_ _ ?_ | (with_reducible apply bel_call; with_reducible assumption) | (with_reducible apply bel_owg; with_reducible assumption; (focus omega)) | with_reducible exact Nat.le_refl _ | omega | (simp; done) | (simp; omega))))⟩
    by_cases h3 : (s.size : Int) < 1
    · go_enter Tryd.func44, Tryd.ntmps44
      go_wp2_with fail
      go_ret
      exact ⟨by rw [hT.out]; rfl, by (refine bel_out ?_; (focus (repeat' first | (with_reducible refine bel_refl ?_) | with_reducible assumption | with_reducible refine bel_drew ?_ | with_reducible refine bel_drewN _ ?_ | with_reducible refine bel_alloc _ ?_ | with_reducible refine bel_set ?_ _ ?_ | (with_reducible apply bel_call; with_reducible assumption) | (with_reducible apply bel_owg; with_reducible assumption; (focus omega)) | with_reducible exact Nat.le_refl _ | omega | (simp; done) | (simp; omega))))⟩
    have h4 : (100 : Int) < (s.size : Int) := by omega
    go_enter Tryd.func44, Tryd.ntmps44
    go_wp2_with fail
    go_ret
    exact ⟨by rw [hT.out]; rfl, by (refine bel_out ?_; (focus (repeat' first | (with_reducible refine bel_refl ?_) | with_reducible assumption | with_reducible refine bel_drew ?_ | with_reducible refine bel_drewN _ ?_ | with_reducible refine bel_alloc _ ?_ | with_reducible refine bel_set ?_ _ ?_ | (with_reducible apply bel_call; with_reducible assumption) | (with_reducible apply bel_owg; with_reducible assumption; (focus omega)) | with_reducible exact Nat.le_refl _ | omega | (simp; done) | (simp; omega))))⟩
end Go.Proofs.YtobgnncdldfkkaaDoor
