/- The walk of the law DiskSure. -/
import Derived.Test.YtdfmdciopeklhaaMade
namespace Go.Proofs.Ytdfmdciopeklhaa
open Go.RowKit
set_option linter.unusedSimpArgs false
set_option linter.unusedVariables false

set_option maxHeartbeats 3200000 in
theorem sure_walk (A : Option Addr) (n c : Nat) (zs : List Int) (x keep sp : Int) (w : World) (hr : RdI w A n c zs) :
    Calls Try.prog 4 #[.slice A n c, .int .i64 x, .int .i64 keep, .int .i64 sp] w fun e w' => e = .returned (.bool true) ∧ Below w.heap.size w w' := by
  have hA := Lib.hid (awake_law w)
  have HM := Lib.hid (made_any A n c zs x w hr)
  go_enter Try.func4, Try.ntmps4
  go_wp2_with fail
  refine HM.out.mono ?_
  rintro e w1 ⟨v1, rfl, ⟨A1, n1, c1, l1, s1, rfl, ho1, hv1, hn1⟩, hb1⟩
  have hr1 := ho1.rd
  obtain ⟨v1, v2, v3⟩ := valid_le hv1
  obtain ⟨S, rfl⟩ := Int.eq_ofNat_of_zero_le v1
  have hK : 0 ≤ crK n1 S keep := by unfold crK; omega
  obtain ⟨K, hK⟩ := Int.eq_ofNat_of_zero_le hK
  cases K with
  | zero =>
    have hcr : ∀ W : World, RdB W A1 n1 c1 l1 → Calls Try.prog 14 #[.agg #[.slice A1 n1 c1, .int .i64 S], .int .i64 keep, .int .i64 sp] W (RDisk W (l1.take S) S) := fun W hW => crash_zero A1 n1 c1 S l1 keep sp W hW (by omega) hv1 hK
    have hways : keep < 0 ∨ (¬ keep < 0 ∧ (n1 : Int) - S < keep ∧ S = n1) ∨ (¬ (n1 : Int) - S < keep ∧ keep = 0) := by unfold crK at hK; omega
    have HCR := Lib.hid hcr
    clear hcr hK
    have hln := hr1.len
    have hx : ∀ j, j < S → (l1.take S).getD j 0 = l1.getD j 0 := fun j hj => by
      rw [List.getD_eq_getElem?_getD, List.getD_eq_getElem?_getD, List.getElem?_take, if_pos hj]
    have HX := Lib.hid hx
    clear hx hln
    rcases hways with hw0 | ⟨hw0, hw1, rfl⟩ | ⟨hw1, rfl⟩
    all_goals
      go_wp2_with (go_at_call 14; refine (HCR.out _ ?_).mono ?_; (focus (refine RdB.below hr1 ?_; (refine bel_out ?_; (focus (repeat' first | (with_reducible refine bel_refl ?_) | with_reducible assumption | with_reducible refine bel_drew ?_ | with_reducible refine bel_drewN _ ?_ | with_reducible refine bel_alloc _ ?_ | with_reducible refine bel_set ?_ _ ?_ | (with_reducible apply bel_call; with_reducible assumption) | with_reducible exact Nat.le_refl _ | omega | (simp; done) | (simp; omega)))))); rintro e w3 ⟨v3, rfl, ⟨A3, n3, c3, rfl, ho3⟩, hb3⟩; (have hn3 : n3 = S := by rw [ho3.len, List.length_take, ← hr1.len]; omega); subst hn3; have hr3 := ho3.rd; obtain ⟨kc3, kf3, kz3, kh3⟩ := blk_cells hb3 (g := w1.heap.size) (t := 24) (cs := #[.slice A1 _ c1, .int .i64 _]) (by (focus (repeat' first | with_reducible assumption | (with_reducible refine heap_drew ?_) | (with_reducible refine heap_drewN ?_) | (with_reducible refine heap_new ?_; focus (first | rfl | omega | (simp; done))) | (with_reducible refine heap_old ?_) | (with_reducible apply heap_near') | (show Array.setIfInBounds _ _ _ = _; rfl) | (with_reducible refine heap_far ?_ ?_; focus (first | omega | (simp; omega) | (simp; done))) | (with_reducible apply heap_grown; with_reducible assumption; (focus (first | omega | (simp; omega)))) | (with_reducible apply heap_call; with_reducible assumption)))))
    all_goals
      go_loopw [12] (fun i wr => ∃ k : Nat, k ≤ n3 ∧ i = .int .i64 k ∧ Below (w3.alloc (.cells #[.slice A3 n3 c3, .int .i64 n3] 24)).heap.size (w3.alloc (.cells #[.slice A3 n3 c3, .int .i64 n3] 24)) wr) (fun i _ => n3 - (intOf i).toNat)
      case atStart => exact ⟨0, Nat.zero_le _, rfl, Below.refl _ _⟩
      case round =>
        obtain ⟨k, hk, rfl, hbw⟩ := hrel
        have hW3 : Below w3.heap.size w3 wr := below_call ((Below.refl _ _).alloc (Nat.le_refl _) _) hbw
        have hW1 : Below w1.heap.size w1 wr := below_call (below_call ((Below.refl _ _).alloc (Nat.le_refl _) _) hb3) hW3
        have hW0 : Below w.heap.size w wr := below_call hb1 hW1
        by_cases hlt : k < n3
        · obtain ⟨bb1, off1, rfl, hbb1, hcc1⟩ := hr1.opened (by omega)
          obtain ⟨bb3, off3, rfl, hbb3, hcc3⟩ := hr3.opened (by omega)
          have hc1 := (hW1.cell (p := ⟨bb1, off1 + k, none⟩) hbb1).trans (hcc1 k (by omega))
          have hc3 := (hW3.cell (p := ⟨bb3, off3 + k, none⟩) hbb3).trans (hcc3 k hlt)
          rw [HX.out k hlt] at hc3
          clear hcc1 hcc3 kc3 kf3 kh3
          obtain ⟨kcp1, kfp1, kzp1, khp1⟩ := blk_cells hbw (g := w1.heap.size) (t := 24) (cs := #[.slice _ _ c1, .int .i64 n3]) (by (focus (repeat' first | with_reducible assumption | (with_reducible refine heap_drew ?_) | (with_reducible refine heap_drewN ?_) | (with_reducible refine heap_new ?_; focus (first | rfl | omega | (simp; done))) | (with_reducible refine heap_old ?_) | (with_reducible apply heap_near') | (show Array.setIfInBounds _ _ _ = _; rfl) | (with_reducible refine heap_far ?_ ?_; focus (first | omega | (simp; omega) | (simp; done))) | (with_reducible apply heap_grown; with_reducible assumption; (focus (first | omega | (simp; omega)))) | (with_reducible apply heap_call; with_reducible assumption))))
          obtain ⟨kcp3, kfp3, kzp3, khp3⟩ := blk_cells hbw (g := w3.heap.size) (t := 24) (cs := #[.slice _ n3 c3, .int .i64 n3]) (by (focus (repeat' first | with_reducible assumption | (with_reducible refine heap_drew ?_) | (with_reducible refine heap_drewN ?_) | (with_reducible refine heap_new ?_; focus (first | rfl | omega | (simp; done))) | (with_reducible refine heap_old ?_) | (with_reducible apply heap_near') | (show Array.setIfInBounds _ _ _ = _; rfl) | (with_reducible refine heap_far ?_ ?_; focus (first | omega | (simp; omega) | (simp; done))) | (with_reducible apply heap_grown; with_reducible assumption; (focus (first | omega | (simp; omega)))) | (with_reducible apply heap_call; with_reducible assumption))))
          have hi0 : (0 : Int) ≤ (k : Int) := by omega
          have hi1 : (k : Int) < (n3 : Int) := by omega
          try have hi2 : (k : Int) < (n1 : Int) := by omega
          by_cases hl : (k : Int) = (n3 : Int) - 1
          all_goals
            first | (have hl1 : ((k : Int) == (n3 : Int) - 1) = true := by simpa using hl) | (have hl1 : ((k : Int) == (n3 : Int) - 1) = false := by simpa using hl)
            clear hl
            go_wp2_with fail
            go_quiet (fail)
            go_wp2
            go_roundw
            case rel => exact ⟨k + 1, by omega, by go_num, below_drewN hbw _⟩
            case measure => simp [intOf]; omega
        · clear hb1 hb3 hbw hW1 hW3
          go_wp2_with (go_at_call 10; refine (hA.out _ ?_).mono ?_; (refine bel_out ?_; (focus (repeat' first | (with_reducible refine bel_refl ?_) | with_reducible assumption | with_reducible refine bel_drew ?_ | with_reducible refine bel_drewN _ ?_ | with_reducible refine bel_alloc _ ?_ | with_reducible refine bel_set ?_ _ ?_ | (with_reducible apply bel_call; with_reducible assumption) | with_reducible exact Nat.le_refl _ | omega | (simp; done) | (simp; omega)))); rintro e w6 ⟨rfl, hb6⟩)
          go_ret
          exact ⟨rfl, below_call hW0 hb6⟩
  | succ K =>
    obtain ⟨N, hN⟩ : ∃ N, N = S + K + 1 := ⟨_, rfl⟩
    have hNn : N ≤ n1 := by unfold crK at hK; omega
    obtain ⟨b, hb⟩ : ∃ b, l1.getD (N - 1) 0 ^^^ low8 sp = b := ⟨_, rfl⟩
    obtain ⟨lx, hlx⟩ : ∃ lx, (l1.take N).set (N - 1) b = lx := ⟨_, rfl⟩
    have hcr : ∀ W : World, RdB W A1 n1 c1 l1 → Calls Try.prog 14 #[.agg #[.slice A1 n1 c1, .int .i64 S], .int .i64 keep, .int .i64 sp] W (RDisk W lx N) := fun W hW => by
      have h := crash_pos A1 n1 c1 S K l1 keep sp W hW (by omega) hv1 hK
      rw [← hN, show S + K = N - 1 from by omega, hb, hlx] at h
      exact h
    have hways : (¬ keep < 0 ∧ (n1 : Int) - S < keep ∧ N = n1) ∨ (¬ (n1 : Int) - S < keep ∧ (S : Int) + keep = (N : Int)) := by unfold crK at hK; omega
    have HCR := Lib.hid hcr
    have hln := hr1.len
    have hxl : lx.length = N := by rw [← hlx, List.length_set, List.length_take]; omega
    have hx : ∀ j, j < N → j ≠ N - 1 → lx.getD j 0 = l1.getD j 0 := fun j hj hne => by
      rw [← hlx, List.getD_eq_getElem?_getD, List.getD_eq_getElem?_getD, List.getElem?_set_ne (by omega), List.getElem?_take, if_pos hj]
    have hxb : lx.getD (N - 1) 0 = b := by
      rw [← hlx, List.getD_eq_getElem?_getD, List.getElem?_set_self (by rw [List.length_take]; omega)]
      rfl
    have hxor : bits .xor .u8 ((l1[N - 1]?.getD 0).toNat : Int) (sp % 256) = (b.toNat : Int) := by
      rw [← low8_toNat, xor_u8, ← hb, List.getD_eq_getElem?_getD]
    have HX := Lib.hid hx
    have HXB := Lib.hid hxb
    have HXO := Lib.hid hxor
    have HXL := Lib.hid hxl
    have hand := and255 sp
    have hSN : decide (S < N) = true := by simp; omega
    have hSN2 : S < N := by omega
    clear hcr hK hx hxb hxor hxl hln hlx hb hN
    rcases hways with ⟨hw0, hw1, rfl⟩ | ⟨hw1, hsum⟩
    · have hsum : (S : Int) + ((N : Int) - (S : Int)) = (N : Int) := by omega
      go_wp2_with (go_at_call 14; refine (HCR.out _ ?_).mono ?_; (focus (refine RdB.below hr1 ?_; (refine bel_out ?_; (focus (repeat' first | (with_reducible refine bel_refl ?_) | with_reducible assumption | with_reducible refine bel_drew ?_ | with_reducible refine bel_drewN _ ?_ | with_reducible refine bel_alloc _ ?_ | with_reducible refine bel_set ?_ _ ?_ | (with_reducible apply bel_call; with_reducible assumption) | with_reducible exact Nat.le_refl _ | omega | (simp; done) | (simp; omega)))))); rintro e w3 ⟨v3, rfl, ⟨A3, n3, c3, rfl, ho3⟩, hb3⟩; (have hn3 : n3 = N := ho3.len.trans HXL.out); subst hn3; have hr3 := ho3.rd; obtain ⟨kc3, kf3, kz3, kh3⟩ := blk_cells hb3 (g := w1.heap.size) (t := 24) (cs := #[.slice A1 _ c1, .int .i64 _]) (by (focus (repeat' first | with_reducible assumption | (with_reducible refine heap_drew ?_) | (with_reducible refine heap_drewN ?_) | (with_reducible refine heap_new ?_; focus (first | rfl | omega | (simp; done))) | (with_reducible refine heap_old ?_) | (with_reducible apply heap_near') | (show Array.setIfInBounds _ _ _ = _; rfl) | (with_reducible refine heap_far ?_ ?_; focus (first | omega | (simp; omega) | (simp; done))) | (with_reducible apply heap_grown; with_reducible assumption; (focus (first | omega | (simp; omega)))) | (with_reducible apply heap_call; with_reducible assumption)))))
      go_loopw [12] (fun i wr => ∃ k : Nat, k ≤ n3 ∧ i = .int .i64 k ∧ Below (w3.alloc (.cells #[.slice A3 n3 c3, .int .i64 n3] 24)).heap.size (w3.alloc (.cells #[.slice A3 n3 c3, .int .i64 n3] 24)) wr) (fun i _ => n3 - (intOf i).toNat)
      case atStart => exact ⟨0, Nat.zero_le _, rfl, Below.refl _ _⟩
      case round =>
        obtain ⟨k, hk, rfl, hbw⟩ := hrel
        have hW3 : Below w3.heap.size w3 wr := below_call ((Below.refl _ _).alloc (Nat.le_refl _) _) hbw
        have hW1 : Below w1.heap.size w1 wr := below_call (below_call ((Below.refl _ _).alloc (Nat.le_refl _) _) hb3) hW3
        have hW0 : Below w.heap.size w wr := below_call hb1 hW1
        by_cases hlt : k < n3
        · obtain ⟨bb1, off1, rfl, hbb1, hcc1⟩ := hr1.opened (by omega)
          obtain ⟨bb3, off3, rfl, hbb3, hcc3⟩ := hr3.opened (by omega)
          have hc1 := (hW1.cell (p := ⟨bb1, off1 + k, none⟩) hbb1).trans (hcc1 k (by omega))
          have hc3 := (hW3.cell (p := ⟨bb3, off3 + k, none⟩) hbb3).trans (hcc3 k hlt)
          clear hcc1 hcc3 kc3 kf3 kh3
          obtain ⟨kcp1, kfp1, kzp1, khp1⟩ := blk_cells hbw (g := w1.heap.size) (t := 24) (cs := #[.slice _ _ c1, .int .i64 S]) (by (focus (repeat' first | with_reducible assumption | (with_reducible refine heap_drew ?_) | (with_reducible refine heap_drewN ?_) | (with_reducible refine heap_new ?_; focus (first | rfl | omega | (simp; done))) | (with_reducible refine heap_old ?_) | (with_reducible apply heap_near') | (show Array.setIfInBounds _ _ _ = _; rfl) | (with_reducible refine heap_far ?_ ?_; focus (first | omega | (simp; omega) | (simp; done))) | (with_reducible apply heap_grown; with_reducible assumption; (focus (first | omega | (simp; omega)))) | (with_reducible apply heap_call; with_reducible assumption))))
          obtain ⟨kcp3, kfp3, kzp3, khp3⟩ := blk_cells hbw (g := w3.heap.size) (t := 24) (cs := #[.slice _ n3 c3, .int .i64 n3]) (by (focus (repeat' first | with_reducible assumption | (with_reducible refine heap_drew ?_) | (with_reducible refine heap_drewN ?_) | (with_reducible refine heap_new ?_; focus (first | rfl | omega | (simp; done))) | (with_reducible refine heap_old ?_) | (with_reducible apply heap_near') | (show Array.setIfInBounds _ _ _ = _; rfl) | (with_reducible refine heap_far ?_ ?_; focus (first | omega | (simp; omega) | (simp; done))) | (with_reducible apply heap_grown; with_reducible assumption; (focus (first | omega | (simp; omega)))) | (with_reducible apply heap_call; with_reducible assumption))))
          have hi0 : (0 : Int) ≤ (k : Int) := by omega
          have hi1 : (k : Int) < (n3 : Int) := by omega
          try have hi2 : (k : Int) < (n1 : Int) := by omega
          by_cases hl : k = n3 - 1
          · have hl1 : ((k : Int) == (n3 : Int) - 1) = true := by simp; omega
            rw [hl, HXB.out] at hc3
            have hxk : bits .xor .u8 ((l1[k]?.getD 0).toNat : Int) (sp % 256) = (b.toNat : Int) := by rw [hl]; exact HXO.out
            rw [← hl] at hc3
            clear hl
            go_wp2_with fail
            go_quiet (fail)
            go_wp2
            go_roundw
            case rel => exact ⟨k + 1, by omega, by go_num, below_drewN hbw _⟩
            case measure => simp [intOf]; omega
          · have hl1 : ((k : Int) == (n3 : Int) - 1) = false := by simp; omega
            rw [HX.out k hlt hl] at hc3
            clear hl
            go_wp2_with fail
            go_quiet (fail)
            go_wp2
            go_roundw
            case rel => exact ⟨k + 1, by omega, by go_num, below_drewN hbw _⟩
            case measure => simp [intOf]; omega
        · clear hb1 hb3 hbw hW1 hW3
          go_wp2_with (go_at_call 10; refine (hA.out _ ?_).mono ?_; (refine bel_out ?_; (focus (repeat' first | (with_reducible refine bel_refl ?_) | with_reducible assumption | with_reducible refine bel_drew ?_ | with_reducible refine bel_drewN _ ?_ | with_reducible refine bel_alloc _ ?_ | with_reducible refine bel_set ?_ _ ?_ | (with_reducible apply bel_call; with_reducible assumption) | with_reducible exact Nat.le_refl _ | omega | (simp; done) | (simp; omega)))); rintro e w6 ⟨rfl, hb6⟩)
          go_ret
          exact ⟨rfl, below_call hW0 hb6⟩
    · have hk1 : 0 ≤ keep := by omega
      have hk2 : ¬ keep < 0 := by omega
      go_wp2_with (go_at_call 14; refine (HCR.out _ ?_).mono ?_; (focus (refine RdB.below hr1 ?_; (refine bel_out ?_; (focus (repeat' first | (with_reducible refine bel_refl ?_) | with_reducible assumption | with_reducible refine bel_drew ?_ | with_reducible refine bel_drewN _ ?_ | with_reducible refine bel_alloc _ ?_ | with_reducible refine bel_set ?_ _ ?_ | (with_reducible apply bel_call; with_reducible assumption) | with_reducible exact Nat.le_refl _ | omega | (simp; done) | (simp; omega)))))); rintro e w3 ⟨v3, rfl, ⟨A3, n3, c3, rfl, ho3⟩, hb3⟩; (have hn3 : n3 = N := ho3.len.trans HXL.out); subst hn3; have hr3 := ho3.rd; obtain ⟨kc3, kf3, kz3, kh3⟩ := blk_cells hb3 (g := w1.heap.size) (t := 24) (cs := #[.slice A1 _ c1, .int .i64 _]) (by (focus (repeat' first | with_reducible assumption | (with_reducible refine heap_drew ?_) | (with_reducible refine heap_drewN ?_) | (with_reducible refine heap_new ?_; focus (first | rfl | omega | (simp; done))) | (with_reducible refine heap_old ?_) | (with_reducible apply heap_near') | (show Array.setIfInBounds _ _ _ = _; rfl) | (with_reducible refine heap_far ?_ ?_; focus (first | omega | (simp; omega) | (simp; done))) | (with_reducible apply heap_grown; with_reducible assumption; (focus (first | omega | (simp; omega)))) | (with_reducible apply heap_call; with_reducible assumption)))))
      go_loopw [12] (fun i wr => ∃ k : Nat, k ≤ n3 ∧ i = .int .i64 k ∧ Below (w3.alloc (.cells #[.slice A3 n3 c3, .int .i64 n3] 24)).heap.size (w3.alloc (.cells #[.slice A3 n3 c3, .int .i64 n3] 24)) wr) (fun i _ => n3 - (intOf i).toNat)
      case atStart => exact ⟨0, Nat.zero_le _, rfl, Below.refl _ _⟩
      case round =>
        obtain ⟨k, hk, rfl, hbw⟩ := hrel
        have hW3 : Below w3.heap.size w3 wr := below_call ((Below.refl _ _).alloc (Nat.le_refl _) _) hbw
        have hW1 : Below w1.heap.size w1 wr := below_call (below_call ((Below.refl _ _).alloc (Nat.le_refl _) _) hb3) hW3
        have hW0 : Below w.heap.size w wr := below_call hb1 hW1
        by_cases hlt : k < n3
        · obtain ⟨bb1, off1, rfl, hbb1, hcc1⟩ := hr1.opened (by omega)
          obtain ⟨bb3, off3, rfl, hbb3, hcc3⟩ := hr3.opened (by omega)
          have hc1 := (hW1.cell (p := ⟨bb1, off1 + k, none⟩) hbb1).trans (hcc1 k (by omega))
          have hc3 := (hW3.cell (p := ⟨bb3, off3 + k, none⟩) hbb3).trans (hcc3 k hlt)
          clear hcc1 hcc3 kc3 kf3 kh3
          obtain ⟨kcp1, kfp1, kzp1, khp1⟩ := blk_cells hbw (g := w1.heap.size) (t := 24) (cs := #[.slice _ _ c1, .int .i64 S]) (by (focus (repeat' first | with_reducible assumption | (with_reducible refine heap_drew ?_) | (with_reducible refine heap_drewN ?_) | (with_reducible refine heap_new ?_; focus (first | rfl | omega | (simp; done))) | (with_reducible refine heap_old ?_) | (with_reducible apply heap_near') | (show Array.setIfInBounds _ _ _ = _; rfl) | (with_reducible refine heap_far ?_ ?_; focus (first | omega | (simp; omega) | (simp; done))) | (with_reducible apply heap_grown; with_reducible assumption; (focus (first | omega | (simp; omega)))) | (with_reducible apply heap_call; with_reducible assumption))))
          obtain ⟨kcp3, kfp3, kzp3, khp3⟩ := blk_cells hbw (g := w3.heap.size) (t := 24) (cs := #[.slice _ n3 c3, .int .i64 n3]) (by (focus (repeat' first | with_reducible assumption | (with_reducible refine heap_drew ?_) | (with_reducible refine heap_drewN ?_) | (with_reducible refine heap_new ?_; focus (first | rfl | omega | (simp; done))) | (with_reducible refine heap_old ?_) | (with_reducible apply heap_near') | (show Array.setIfInBounds _ _ _ = _; rfl) | (with_reducible refine heap_far ?_ ?_; focus (first | omega | (simp; omega) | (simp; done))) | (with_reducible apply heap_grown; with_reducible assumption; (focus (first | omega | (simp; omega)))) | (with_reducible apply heap_call; with_reducible assumption))))
          have hi0 : (0 : Int) ≤ (k : Int) := by omega
          have hi1 : (k : Int) < (n3 : Int) := by omega
          try have hi2 : (k : Int) < (n1 : Int) := by omega
          by_cases hl : k = n3 - 1
          · have hl1 : ((k : Int) == (n3 : Int) - 1) = true := by simp; omega
            rw [hl, HXB.out] at hc3
            have hxk : bits .xor .u8 ((l1[k]?.getD 0).toNat : Int) (sp % 256) = (b.toNat : Int) := by rw [hl]; exact HXO.out
            rw [← hl] at hc3
            clear hl
            go_wp2_with fail
            go_quiet (fail)
            go_wp2
            go_roundw
            case rel => exact ⟨k + 1, by omega, by go_num, below_drewN hbw _⟩
            case measure => simp [intOf]; omega
          · have hl1 : ((k : Int) == (n3 : Int) - 1) = false := by simp; omega
            rw [HX.out k hlt hl] at hc3
            clear hl
            go_wp2_with fail
            go_quiet (fail)
            go_wp2
            go_roundw
            case rel => exact ⟨k + 1, by omega, by go_num, below_drewN hbw _⟩
            case measure => simp [intOf]; omega
        · clear hb1 hb3 hbw hW1 hW3
          go_wp2_with (go_at_call 10; refine (hA.out _ ?_).mono ?_; (refine bel_out ?_; (focus (repeat' first | (with_reducible refine bel_refl ?_) | with_reducible assumption | with_reducible refine bel_drew ?_ | with_reducible refine bel_drewN _ ?_ | with_reducible refine bel_alloc _ ?_ | with_reducible refine bel_set ?_ _ ?_ | (with_reducible apply bel_call; with_reducible assumption) | with_reducible exact Nat.le_refl _ | omega | (simp; done) | (simp; omega)))); rintro e w6 ⟨rfl, hb6⟩)
          go_ret
          exact ⟨rfl, below_call hW0 hb6⟩

end Go.Proofs.Ytdfmdciopeklhaa
