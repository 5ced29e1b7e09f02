/- Both Inverts. -/
import Derived.Test.YtakbpdlfgjfbeaaDoorD24
import Derived.Test.YtakbpdlfgjfbeaaDoorD15
import Derived.Deep.RegionLaw
namespace Go.Proofs.YtakbpdlfgjfbeaaDoor
open Go.RowKit
set_option linter.unusedSimpArgs false
set_option linter.unusedVariables false

theorem inv_single {E : List Ed} {i : Nat} {e : Ed} (he : E[i]? = some e) (h : e.1 ≠ 2 ∨ ∀ f, E[i + 1]? = some f → f.1 ≠ 3) : inv (E.drop i) = ex e :: inv (E.drop (i + 1)) := by
  rw [drop_get he]
  cases hd : E.drop (i + 1) with
  | nil => rfl
  | cons b r =>
    have hb : E[i + 1]? = some b := by
      have h1 : (E.drop (i + 1))[0]? = some b := by rw [hd]; rfl
      rw [List.getElem?_drop, Nat.add_zero] at h1
      exact h1
    rw [inv, if_neg]
    rintro ⟨h1, h2⟩
    rcases h with h | h
    · exact h h1
    · exact h b hb h2
theorem inv_pair {E : List Ed} {i : Nat} {e f : Ed} (he : E[i]? = some e) (hf : E[i + 1]? = some f) (h1 : e.1 = 2) (h2 : f.1 = 3) : inv (E.drop i) = ex f :: ex e :: inv (E.drop (i + 2)) := by
  rw [drop_get he, drop_get hf, inv, if_pos ⟨h1, h2⟩]
theorem Reads.litN {w : World} {t : Nat} {sz n : Nat} {cs : Array Value} (h : cs.size = n * sz) : Reads (w.alloc (.cells cs t)) (w.alloc (.cells cs t)).heap.size sz (some ⟨w.heap.size, 0, none⟩) n cs.toList := by
  refine ⟨by simp [h], fun _ => ⟨_, rfl, by rw [size_alloc_]; exact Nat.lt_succ_self _, fun j u hu => ?_⟩⟩
  have e : (⟨w.heap.size, 0, none⟩ : Addr).add j = ⟨w.heap.size, j, none⟩ := by
    unfold Addr.add
    by_cases h0 : j = 0 <;> simp [h0]
  have h1 : (w.alloc (.cells cs t)).heap[w.heap.size]? = some (.cells cs t) := by rw [heap_alloc_get, if_pos rfl]
  rw [e, cell_of_row _ _ j _ _ _ h1]
  simpa using hu
theorem Fits.two {w : World} {X : Nat → Prop} {a b : Ed} {v0 v1 v2 v3 : Value} (h1 : REX X w a [v0, v1]) (h2 : REX X w b [v2, v3]) : Fits (REX X) 2 w [a, b] [v0, v1, v2, v3] := by
  intro k x hk
  match k, hk with
  | 0, hk => injection hk with hk; subst hk; exact h1
  | 1, hk => injection hk with hk; subst hk; exact h2

set_option maxRecDepth 100000 in
set_option maxHeartbeats 8000000 in
theorem invert_any (A : Option Addr) (n c : Nat) (E : List Ed) (w : World) (h : RdR RE 2 w A n c E) (hn : n ≤ 100000) (hs : Small E 100000) :
    Calls Tryd.prog 26 #[.slice A n c] w (REdits w (inv E)) := by
  obtain ⟨i1, hinf, hy0, hy1, hy2⟩ := info_parts ed_info
  have HX : Hid (∀ (k : Int) (A' : Option Addr) (n' c' : Nat) (L : List ByteArray) (W : World), RdR RS 1 w A' n' c' L → n' ≤ 100000 → Below w.heap.size w W → Calls Tryd.prog 43 #[.agg #[.int .i64 k, .slice A' n' c']] W (REx W k n' L)) := Lib.hid fun k A' n' c' L W h1 h2 h3 => exch_any k A' n' c' L W (h1.below RS.stay h3) h2
  have HE := Lib.hid h
  have HS := Lib.hid hs
  have HN := Lib.hid h.len
  clear h hs
  go_enter Tryd.func26, Tryd.ntmps26
  go_wp2
  go_loopw [3, 4] (fun v3 v4 wr => ∃ (i : Nat) (Ao : Option Addr) (no co : Nat) (O : List Ed), i ≤ n ∧ v4 = .int .i64 i ∧ v3 = .slice Ao no co ∧ OwR (REX NoX) 2 wr w.heap.size 32 Ao no co O ∧ no ≤ i ∧ Below w.heap.size w wr ∧ Hid (O ++ inv (E.drop i) = inv E)) (fun _ v4 _ => n - (intOf v4).toNat)
  case atStart => exact ⟨0, none, 0, 0, [], Nat.zero_le _, rfl, rfl, OwR.nil _ _ _ _ _, Nat.le_refl _, Below.refl _ _, Lib.hid (by rw [List.drop_zero, List.nil_append])⟩
  case round =>
    obtain ⟨i, Ao, no, co, O, hi, rfl, rfl, hO, hno, hbw, HI⟩ := hrel
    by_cases hlt : i < n
    · obtain ⟨b1, o1, k1, L1, B1, m1, d1, hA, hb1, hE1, hk1, hs1, hr1⟩ := RdE.at_ HE.out hlt
      have c1 := (hbw.cell (p := ⟨b1, o1 + i * 2, none⟩) hb1).trans hk1
      have c3 := (hbw.cell (p := ⟨b1, o1 + i * 2 + 1, none⟩) hb1).trans hs1
      have hm1 : m1 ≤ 100000 := by rw [hr1.len]; exact HS.out _ (List.mem_of_getElem? hE1)
      have p1 : (i : Int) < (n : Int) := by omega
      have p2 : (0 : Int) ≤ (i : Int) := by omega
      have HR1 := Lib.hid hr1
      have HE1 := Lib.hid hE1
      have HK1 := Lib.hid hk1
      have HS1 := Lib.hid hs1
      clear hk1 hs1 hr1 hE1
      by_cases hk2 : k1 = 2
      · have dk : (k1 == 2) = true := by rw [beq_iff_eq]; exact hk2
        by_cases hlt2 : i + 1 < n
        · have dl : decide ((i : Int) + 1 < (n : Int)) = true := decide_eq_true (by omega)
          have p3 : (i : Int) + 1 < (n : Int) := by omega
          have p4 : (0 : Int) ≤ (i : Int) + 1 := by omega
          obtain ⟨b2, o2, k2, L2, B2, m2, d2, hA2, hb2, hE2, hk3, hs2, hr2⟩ := RdE.at_ HE.out hlt2
          rw [hA] at hA2
          injection hA2 with hA2
          injection hA2 with e1 e2
          subst e1 e2
          have c5 := (hbw.cell (p := ⟨b1, o1 + (i + 1) * 2, none⟩) hb1).trans hk3
          have c6 := (hbw.cell (p := ⟨b1, o1 + (i + 1) * 2 + 1, none⟩) hb1).trans hs2
          have hm2 : m2 ≤ 100000 := by rw [hr2.len]; exact HS.out _ (List.mem_of_getElem? hE2)
          have HR2 := Lib.hid hr2
          have HE2 := Lib.hid hE2
          have HK2 := Lib.hid hk3
          have HS2 := Lib.hid hs2
          clear hk3 hs2 hr2 hE2
          subst hA
          by_cases hk4 : k2 = 3
          · have dk4 : (k2 == 3) = true := by rw [beq_iff_eq]; exact hk4
            have HI2 : Hid (O ++ [ex (k2, L2), ex (k1, L1)] ++ inv (E.drop (i + 2)) = inv E) := Lib.hid (by rw [← HI.out, inv_pair HE1.out HE2.out hk2 hk4]; simp)
            clear hk2 hk4
            have HO := Lib.hid hO
            have HXA := Lib.hid fun W hW => HX.out k1 B1 m1 d1 L1 W HR1.out hm1 hW
            have HXB := Lib.hid fun W hW => HX.out k2 B2 m2 d2 L2 W HR2.out hm2 hW
            have q1 : IntKind.i64.wrap ((i : Int) + 1) = (i : Int) + 1 := IntWalk.i64_in _ (by omega)
            have q3 : ((i : Int) + 1).toNat = i + 1 := by omega
            clear hO
            go_wp2_with fail
            go_region_law (first
              | (go_simp; go_at_call 43; ((with_reducible refine (HXA.out _ ?_).mono ?_); (focus (have _t := hbw; (refine bel_out ?_; (focus (repeat' first | (with_reducible refine bel_refl ?_) | with_reducible assumption | with_reducible refine bel_drew ?_ | with_reducible refine bel_drewN _ ?_ | with_reducible refine bel_alloc _ ?_ | with_reducible refine bel_set ?_ _ ?_ | (with_reducible apply bel_call; with_reducible assumption) | (with_reducible apply bel_owg; with_reducible assumption; (focus omega)) | with_reducible exact Nat.le_refl _ | omega | (simp; done) | (simp; omega)))))); rintro e w5 ⟨A5, e5, rfl, hr5, hty5, hb5⟩; (have HX5 : Hid (Below w.heap.size w w5) := Lib.hid (by have _t := hbw; (refine bel_out ?_; (focus (repeat' first | (with_reducible refine bel_refl ?_) | with_reducible assumption | with_reducible refine bel_drew ?_ | with_reducible refine bel_drewN _ ?_ | with_reducible refine bel_alloc _ ?_ | with_reducible refine bel_set ?_ _ ?_ | (with_reducible apply bel_call; with_reducible assumption) | (with_reducible apply bel_owg; with_reducible assumption; (focus omega)) | with_reducible exact Nat.le_refl _ | omega | (simp; done) | (simp; omega)))))); (have u1 := (HX5.out.cell (p := ⟨b1, o1 + i * 2, none⟩) hb1).trans HK1.out); (have u2 := (HX5.out.cell (p := ⟨b1, o1 + i * 2 + 1, none⟩) hb1).trans HS1.out); (have u3 := (HX5.out.cell (p := ⟨b1, o1 + (i + 1) * 2, none⟩) hb1).trans HK2.out); (have u4 := (HX5.out.cell (p := ⟨b1, o1 + (i + 1) * 2 + 1, none⟩) hb1).trans HS2.out)))
              | (go_simp; go_at_call 43; ((with_reducible refine (HXB.out _ ?_).mono ?_); (focus (have _t := hbw; (refine bel_out ?_; (focus (repeat' first | (with_reducible refine bel_refl ?_) | with_reducible assumption | with_reducible refine bel_drew ?_ | with_reducible refine bel_drewN _ ?_ | with_reducible refine bel_alloc _ ?_ | with_reducible refine bel_set ?_ _ ?_ | (with_reducible apply bel_call; with_reducible assumption) | (with_reducible apply bel_owg; with_reducible assumption; (focus omega)) | with_reducible exact Nat.le_refl _ | omega | (simp; done) | (simp; omega)))))); rintro e w6 ⟨A6, e6, rfl, hr6, hty6, hb6⟩; (have HX6 : Hid (Below w.heap.size w w6) := Lib.hid (by have _t := hbw; (refine bel_out ?_; (focus (repeat' first | (with_reducible refine bel_refl ?_) | with_reducible assumption | with_reducible refine bel_drew ?_ | with_reducible refine bel_drewN _ ?_ | with_reducible refine bel_alloc _ ?_ | with_reducible refine bel_set ?_ _ ?_ | (with_reducible apply bel_call; with_reducible assumption) | (with_reducible apply bel_owg; with_reducible assumption; (focus omega)) | with_reducible exact Nat.le_refl _ | omega | (simp; done) | (simp; omega)))))); (have u1 := (HX6.out.cell (p := ⟨b1, o1 + i * 2, none⟩) hb1).trans HK1.out); (have u2 := (HX6.out.cell (p := ⟨b1, o1 + i * 2 + 1, none⟩) hb1).trans HS1.out); (have u3 := (HX6.out.cell (p := ⟨b1, o1 + (i + 1) * 2, none⟩) hb1).trans HK2.out); (have u4 := (HX6.out.cell (p := ⟨b1, o1 + (i + 1) * 2 + 1, none⟩) hb1).trans HS2.out)))
              | (go_must (refine step_append_r _ rfl (.tmp 33) (.tmp 45) 27 rfl 2 32 w.heap.size 32 i1 (.agg #[.int .i64 0, .slice none 0 0]) (REX.stay NoX) (by decide) Tryd.underlying27 hinf hy0 hy1 hy2 rfl (by omega) Ao no co O rfl ?_ _ 2 2 rfl [ex (k2, L2), ex (k1, L1)] [.int .i64 (exK k2), .slice A6 m2 e6, .int .i64 (exK k1), .slice A5 m1 e5] (Reads.litN (n := 2) (cs := #[.int .i64 (exK k2), .slice A6 m2 e6, .int .i64 (exK k1), .slice A5 m1 e5]) rfl) (Fits.two ⟨A6, m2, e6, rfl, ?_, ?_, fun _ _ h => h⟩ ⟨A5, m1, e5, rfl, ?_, ?_, fun _ _ h => h⟩) rfl ?_ ?_ ?_ ?_ ?_; (focus (refine OwR.call (REX.stay NoX) HO.out ?_; (refine bel_out ?_; (focus (repeat' first | (with_reducible refine bel_refl ?_) | with_reducible assumption | with_reducible refine bel_drew ?_ | with_reducible refine bel_drewN _ ?_ | with_reducible refine bel_alloc _ ?_ | with_reducible refine bel_set ?_ _ ?_ | (with_reducible apply bel_call; with_reducible assumption) | (with_reducible apply bel_owg; with_reducible assumption; (focus omega)) | with_reducible exact Nat.le_refl _ | omega | (simp; done) | (simp; omega)))))); (focus (refine RdR.below RS.stay hr6 ?_; (refine bel_out ?_; (focus (repeat' first | (with_reducible refine bel_refl ?_) | with_reducible assumption | with_reducible refine bel_drew ?_ | with_reducible refine bel_drewN _ ?_ | with_reducible refine bel_alloc _ ?_ | with_reducible refine bel_set ?_ _ ?_ | (with_reducible apply bel_call; with_reducible assumption) | (with_reducible apply bel_owg; with_reducible assumption; (focus omega)) | with_reducible exact Nat.le_refl _ | omega | (simp; done) | (simp; omega)))))); (focus (refine TyB.below hty6 ?_; (refine bel_out ?_; (focus (repeat' first | (with_reducible refine bel_refl ?_) | with_reducible assumption | with_reducible refine bel_drew ?_ | with_reducible refine bel_drewN _ ?_ | with_reducible refine bel_alloc _ ?_ | with_reducible refine bel_set ?_ _ ?_ | (with_reducible apply bel_call; with_reducible assumption) | (with_reducible apply bel_owg; with_reducible assumption; (focus omega)) | with_reducible exact Nat.le_refl _ | omega | (simp; done) | (simp; omega)))))); (focus (refine RdR.below RS.stay hr5 ?_; (refine bel_out ?_; (focus (repeat' first | (with_reducible refine bel_refl ?_) | with_reducible assumption | with_reducible refine bel_drew ?_ | with_reducible refine bel_drewN _ ?_ | with_reducible refine bel_alloc _ ?_ | with_reducible refine bel_set ?_ _ ?_ | (with_reducible apply bel_call; with_reducible assumption) | (with_reducible apply bel_owg; with_reducible assumption; (focus omega)) | with_reducible exact Nat.le_refl _ | omega | (simp; done) | (simp; omega)))))); (focus (refine TyB.below hty5 ?_; (refine bel_out ?_; (focus (repeat' first | (with_reducible refine bel_refl ?_) | with_reducible assumption | with_reducible refine bel_drew ?_ | with_reducible refine bel_drewN _ ?_ | with_reducible refine bel_alloc _ ?_ | with_reducible refine bel_set ?_ _ ?_ | (with_reducible apply bel_call; with_reducible assumption) | (with_reducible apply bel_owg; with_reducible assumption; (focus omega)) | with_reducible exact Nat.le_refl _ | omega | (simp; done) | (simp; omega)))))); (focus (simp [Value.oneCell'])); (focus (unfold maxLen; omega)); (focus omega); (focus (have _s5 := HX5.out.size; have _s6 := HX6.out.size; first | (rw [size_alloc_]; omega) | (rw [size_drew, size_alloc_]; omega) | (simp [size_alloc_, size_drew]; omega))); intro A7 e7 w7 ho7 hg7)))
            all_goals
              have hb7 : Below w.heap.size w w7 := by
                refine Below.trans ?_ hg7.b
                (refine bel_out ?_; (focus (repeat' first | (with_reducible refine bel_refl ?_) | with_reducible assumption | with_reducible refine bel_drew ?_ | with_reducible refine bel_drewN _ ?_ | with_reducible refine bel_alloc _ ?_ | with_reducible refine bel_set ?_ _ ?_ | (with_reducible apply bel_call; with_reducible assumption) | (with_reducible apply bel_owg; with_reducible assumption; (focus omega)) | with_reducible exact Nat.le_refl _ | omega | (simp; done) | (simp; omega))))
              go_wp2_with fail
              go_roundw
              case rel => exact ⟨i + 2, A7, no + 2, e7, _, by omega, by go_num, rfl, ho7, by omega, hb7, HI2⟩
              case measure => (simp [intOf]; try omega)
          · have dk4 : (k2 == 3) = false := by rw [beq_eq_false_iff_ne]; exact hk4
            have HI2 : Hid (O ++ [ex (k1, L1)] ++ inv (E.drop (i + 1)) = inv E) := Lib.hid (by rw [← HI.out, inv_single HE1.out (Or.inr (fun f hf => by rw [HE2.out] at hf; injection hf with hf; rw [← hf]; exact hk4))]; simp)
            clear hk2 hk4
            have HO := Lib.hid hO
            have HXC := Lib.hid (HX.out k1 B1 m1 d1 L1 wr HR1.out hm1 hbw)
            clear hO
            go_wp2_with fail
            go_at_call 43
            refine HXC.out.mono ?_
            rintro e w5 ⟨A5, c5, rfl, hr5, hty5, hb5⟩
            have hal : Below w5.heap.size w5 (w5.alloc (.cells #[.int .i64 (exK k1), .slice A5 m1 c5] 32)) := (Below.refl _ _).alloc (Nat.le_refl _) _
            have HOA := Lib.hid ((HO.out.call (REX.stay NoX) hb5).call (REX.stay NoX) hal)
            have HFA : Hid (Fits (REX NoX) 2 (w5.alloc (.cells #[.int .i64 (exK k1), .slice A5 m1 c5] 32)) [ex (k1, L1)] [.int .i64 (exK k1), .slice A5 m1 c5]) := Lib.hid (Fits.one rfl ⟨A5, m1, c5, rfl, hr5.below RS.stay hal, hty5.below hal, fun _ _ h => h⟩)
            have hb05 := below_call hbw hb5
            have hsz5 := hb05.size
            clear hr5 hty5 hb5 hal HXC
            go_wp2_with (first
              | (at_builtin; go_must (refine wpList_append_r _ rfl (.tmp 49) (.tmp 55) 27 rfl 2 32 w.heap.size 32 i1 (.agg #[.int .i64 0, .slice none 0 0]) (REX.stay NoX) (by decide) Tryd.underlying27 hinf hy0 hy1 hy2 rfl (by omega) Ao no co O rfl HOA.out (some ⟨w5.heap.size, 0, none⟩) 1 1 rfl [ex (k1, L1)] [.int .i64 (exK k1), .slice A5 m1 c5] (Reads.lit (cs := #[.int .i64 (exK k1), .slice A5 m1 c5]) rfl) HFA.out rfl ?_ ?_ ?_ ?_ ?_; (focus (simp [Value.oneCell'])); (focus (unfold maxLen; omega)); (focus omega); (focus (rw [size_alloc_]; omega)); intro A7 c7 w7 ho7 hg7; (have hb7 : Below w.heap.size w w7 := (hb05.alloc hsz5 _).trans hg7.b))))
            go_roundw
            case rel => exact ⟨i + 1, A7, no + 1, c7, _, by omega, by go_num, rfl, ho7, by omega, hb7, HI2⟩
            case measure => (simp [intOf]; try omega)
        · have dl : decide ((i : Int) + 1 < (n : Int)) = false := decide_eq_false (by omega)
          have p3 : (n : Int) ≤ (i : Int) + 1 := by omega
          have h9 : E[i + 1]? = none := List.getElem?_eq_none (by rw [← HN.out]; omega)
          have h10 : ∀ f, E[i + 1]? = some f → f.1 ≠ 3 := fun f hf => by rw [h9] at hf; cases hf
          have HI2 : Hid (O ++ [ex (k1, L1)] ++ inv (E.drop (i + 1)) = inv E) := Lib.hid (by rw [← HI.out, inv_single HE1.out (Or.inr h10)]; simp)
          clear h9 h10
          subst hA
          clear hk2
          have HO := Lib.hid hO
          have HXC := Lib.hid (HX.out k1 B1 m1 d1 L1 wr HR1.out hm1 hbw)
          clear hO
          go_wp2_with fail
          go_at_call 43
          refine HXC.out.mono ?_
          rintro e w5 ⟨A5, c5, rfl, hr5, hty5, hb5⟩
          have hal : Below w5.heap.size w5 (w5.alloc (.cells #[.int .i64 (exK k1), .slice A5 m1 c5] 32)) := (Below.refl _ _).alloc (Nat.le_refl _) _
          have HOA := Lib.hid ((HO.out.call (REX.stay NoX) hb5).call (REX.stay NoX) hal)
          have HFA : Hid (Fits (REX NoX) 2 (w5.alloc (.cells #[.int .i64 (exK k1), .slice A5 m1 c5] 32)) [ex (k1, L1)] [.int .i64 (exK k1), .slice A5 m1 c5]) := Lib.hid (Fits.one rfl ⟨A5, m1, c5, rfl, hr5.below RS.stay hal, hty5.below hal, fun _ _ h => h⟩)
          have hb05 := below_call hbw hb5
          have hsz5 := hb05.size
          clear hr5 hty5 hb5 hal HXC
          go_wp2_with (first
            | (at_builtin; go_must (refine wpList_append_r _ rfl (.tmp 49) (.tmp 55) 27 rfl 2 32 w.heap.size 32 i1 (.agg #[.int .i64 0, .slice none 0 0]) (REX.stay NoX) (by decide) Tryd.underlying27 hinf hy0 hy1 hy2 rfl (by omega) Ao no co O rfl HOA.out (some ⟨w5.heap.size, 0, none⟩) 1 1 rfl [ex (k1, L1)] [.int .i64 (exK k1), .slice A5 m1 c5] (Reads.lit (cs := #[.int .i64 (exK k1), .slice A5 m1 c5]) rfl) HFA.out rfl ?_ ?_ ?_ ?_ ?_; (focus (simp [Value.oneCell'])); (focus (unfold maxLen; omega)); (focus omega); (focus (rw [size_alloc_]; omega)); intro A7 c7 w7 ho7 hg7; (have hb7 : Below w.heap.size w w7 := (hb05.alloc hsz5 _).trans hg7.b))))
          go_roundw
          case rel => exact ⟨i + 1, A7, no + 1, c7, _, by omega, by go_num, rfl, ho7, by omega, hb7, HI2⟩
          case measure => (simp [intOf]; try omega)
      · have dk : (k1 == 2) = false := by rw [beq_eq_false_iff_ne]; exact hk2
        have HI2 : Hid (O ++ [ex (k1, L1)] ++ inv (E.drop (i + 1)) = inv E) := Lib.hid (by rw [← HI.out, inv_single HE1.out (Or.inl hk2)]; simp)
        subst hA
        clear hk2
        have HO := Lib.hid hO
        have HXC := Lib.hid (HX.out k1 B1 m1 d1 L1 wr HR1.out hm1 hbw)
        clear hO
        go_wp2_with fail
        go_at_call 43
        refine HXC.out.mono ?_
        rintro e w5 ⟨A5, c5, rfl, hr5, hty5, hb5⟩
        have hal : Below w5.heap.size w5 (w5.alloc (.cells #[.int .i64 (exK k1), .slice A5 m1 c5] 32)) := (Below.refl _ _).alloc (Nat.le_refl _) _
        have HOA := Lib.hid ((HO.out.call (REX.stay NoX) hb5).call (REX.stay NoX) hal)
        have HFA : Hid (Fits (REX NoX) 2 (w5.alloc (.cells #[.int .i64 (exK k1), .slice A5 m1 c5] 32)) [ex (k1, L1)] [.int .i64 (exK k1), .slice A5 m1 c5]) := Lib.hid (Fits.one rfl ⟨A5, m1, c5, rfl, hr5.below RS.stay hal, hty5.below hal, fun _ _ h => h⟩)
        have hb05 := below_call hbw hb5
        have hsz5 := hb05.size
        clear hr5 hty5 hb5 hal HXC
        go_wp2_with (first
          | (at_builtin; go_must (refine wpList_append_r _ rfl (.tmp 49) (.tmp 55) 27 rfl 2 32 w.heap.size 32 i1 (.agg #[.int .i64 0, .slice none 0 0]) (REX.stay NoX) (by decide) Tryd.underlying27 hinf hy0 hy1 hy2 rfl (by omega) Ao no co O rfl HOA.out (some ⟨w5.heap.size, 0, none⟩) 1 1 rfl [ex (k1, L1)] [.int .i64 (exK k1), .slice A5 m1 c5] (Reads.lit (cs := #[.int .i64 (exK k1), .slice A5 m1 c5]) rfl) HFA.out rfl ?_ ?_ ?_ ?_ ?_; (focus (simp [Value.oneCell'])); (focus (unfold maxLen; omega)); (focus omega); (focus (rw [size_alloc_]; omega)); intro A7 c7 w7 ho7 hg7; (have hb7 : Below w.heap.size w w7 := (hb05.alloc hsz5 _).trans hg7.b))))
        go_roundw
        case rel => exact ⟨i + 1, A7, no + 1, c7, _, by omega, by go_num, rfl, ho7, by omega, hb7, HI2⟩
        case measure => (simp [intOf]; try omega)
    · obtain rfl : i = n := by omega
      have hi2 : (i : Int) ≤ (i : Int) := by omega
      have HF : Hid (O = inv E) := Lib.hid (by have := HI.out; rw [List.drop_of_length_le (by rw [← HN.out]; exact Nat.le_refl _)] at this; simpa [inv] using this)
      have HO := Lib.hid hO
      clear hO
      go_wp2
      go_ret
      exact ⟨Ao, no, co, rfl, by rw [← HF.out]; exact HO.out.rd, hbw⟩

set_option maxRecDepth 100000 in
set_option maxHeartbeats 8000000 in
theorem rinvert_any (A : Option Addr) (n c : Nat) (E : List Ed) (w : World) (h : RdR RE 2 w A n c E) (hn : n ≤ 100000) (hs : Small E 100000) :
    Calls Tryd.prog 28 #[.slice A n c] w (REdits w (inv E)) := by
  obtain ⟨i1, hinf, hy0, hy1, hy2⟩ := info_parts ed_info
  have HX : Hid (∀ (k : Int) (A' : Option Addr) (n' c' : Nat) (L : List ByteArray) (W : World), RdR RS 1 w A' n' c' L → n' ≤ 100000 → Below w.heap.size w W → Calls Tryd.prog 44 #[.agg #[.int .i64 k, .slice A' n' c']] W (REx W k n' L)) := Lib.hid fun k A' n' c' L W h1 h2 h3 => turned_any k A' n' c' L W (h1.below RS.stay h3) h2
  have HE := Lib.hid h
  have HS := Lib.hid hs
  have HN := Lib.hid h.len
  clear h hs
  go_enter Tryd.func28, Tryd.ntmps28
  go_wp2
  go_loopw [3, 4] (fun v3 v4 wr => ∃ (i : Nat) (Ao : Option Addr) (no co : Nat) (O : List Ed), i ≤ n ∧ v4 = .int .i64 i ∧ v3 = .slice Ao no co ∧ OwR (REX NoX) 2 wr w.heap.size 32 Ao no co O ∧ no ≤ i ∧ Below w.heap.size w wr ∧ Hid (O ++ inv (E.drop i) = inv E)) (fun _ v4 _ => n - (intOf v4).toNat)
  case atStart => exact ⟨0, none, 0, 0, [], Nat.zero_le _, rfl, rfl, OwR.nil _ _ _ _ _, Nat.le_refl _, Below.refl _ _, Lib.hid (by rw [List.drop_zero, List.nil_append])⟩
  case round =>
    obtain ⟨i, Ao, no, co, O, hi, rfl, rfl, hO, hno, hbw, HI⟩ := hrel
    by_cases hlt : i < n
    · obtain ⟨b1, o1, k1, L1, B1, m1, d1, hA, hb1, hE1, hk1, hs1, hr1⟩ := RdE.at_ HE.out hlt
      have c1 := (hbw.cell (p := ⟨b1, o1 + i * 2, none⟩) hb1).trans hk1
      have c3 := (hbw.cell (p := ⟨b1, o1 + i * 2 + 1, none⟩) hb1).trans hs1
      have hm1 : m1 ≤ 100000 := by rw [hr1.len]; exact HS.out _ (List.mem_of_getElem? hE1)
      have p1 : (i : Int) < (n : Int) := by omega
      have p2 : (0 : Int) ≤ (i : Int) := by omega
      have HR1 := Lib.hid hr1
      have HE1 := Lib.hid hE1
      have HK1 := Lib.hid hk1
      have HS1 := Lib.hid hs1
      clear hk1 hs1 hr1 hE1
      by_cases hk2 : k1 = 2
      · have dk : (k1 == 2) = true := by rw [beq_iff_eq]; exact hk2
        by_cases hlt2 : i + 1 < n
        · have dl : decide ((i : Int) + 1 < (n : Int)) = true := decide_eq_true (by omega)
          have p3 : (i : Int) + 1 < (n : Int) := by omega
          have p4 : (0 : Int) ≤ (i : Int) + 1 := by omega
          obtain ⟨b2, o2, k2, L2, B2, m2, d2, hA2, hb2, hE2, hk3, hs2, hr2⟩ := RdE.at_ HE.out hlt2
          rw [hA] at hA2
          injection hA2 with hA2
          injection hA2 with e1 e2
          subst e1 e2
          have c5 := (hbw.cell (p := ⟨b1, o1 + (i + 1) * 2, none⟩) hb1).trans hk3
          have c6 := (hbw.cell (p := ⟨b1, o1 + (i + 1) * 2 + 1, none⟩) hb1).trans hs2
          have hm2 : m2 ≤ 100000 := by rw [hr2.len]; exact HS.out _ (List.mem_of_getElem? hE2)
          have HR2 := Lib.hid hr2
          have HE2 := Lib.hid hE2
          have HK2 := Lib.hid hk3
          have HS2 := Lib.hid hs2
          clear hk3 hs2 hr2 hE2
          subst hA
          by_cases hk4 : k2 = 3
          · have dk4 : (k2 == 3) = true := by rw [beq_iff_eq]; exact hk4
            have HI2 : Hid (O ++ [ex (k2, L2), ex (k1, L1)] ++ inv (E.drop (i + 2)) = inv E) := Lib.hid (by rw [← HI.out, inv_pair HE1.out HE2.out hk2 hk4]; simp)
            clear hk2 hk4
            have HO := Lib.hid hO
            have HXA := Lib.hid fun W hW => HX.out k1 B1 m1 d1 L1 W HR1.out hm1 hW
            have HXB := Lib.hid fun W hW => HX.out k2 B2 m2 d2 L2 W HR2.out hm2 hW
            have q1 : IntKind.i64.wrap ((i : Int) + 1) = (i : Int) + 1 := IntWalk.i64_in _ (by omega)
            have q3 : ((i : Int) + 1).toNat = i + 1 := by omega
            clear hO
            go_wp2_with fail
            go_region_law (first
              | (go_simp; go_at_call 44; ((with_reducible refine (HXA.out _ ?_).mono ?_); (focus (have _t := hbw; (refine bel_out ?_; (focus (repeat' first | (with_reducible refine bel_refl ?_) | with_reducible assumption | with_reducible refine bel_drew ?_ | with_reducible refine bel_drewN _ ?_ | with_reducible refine bel_alloc _ ?_ | with_reducible refine bel_set ?_ _ ?_ | (with_reducible apply bel_call; with_reducible assumption) | (with_reducible apply bel_owg; with_reducible assumption; (focus omega)) | with_reducible exact Nat.le_refl _ | omega | (simp; done) | (simp; omega)))))); rintro e w5 ⟨A5, e5, rfl, hr5, hty5, hb5⟩; (have HX5 : Hid (Below w.heap.size w w5) := Lib.hid (by have _t := hbw; (refine bel_out ?_; (focus (repeat' first | (with_reducible refine bel_refl ?_) | with_reducible assumption | with_reducible refine bel_drew ?_ | with_reducible refine bel_drewN _ ?_ | with_reducible refine bel_alloc _ ?_ | with_reducible refine bel_set ?_ _ ?_ | (with_reducible apply bel_call; with_reducible assumption) | (with_reducible apply bel_owg; with_reducible assumption; (focus omega)) | with_reducible exact Nat.le_refl _ | omega | (simp; done) | (simp; omega)))))); (have u1 := (HX5.out.cell (p := ⟨b1, o1 + i * 2, none⟩) hb1).trans HK1.out); (have u2 := (HX5.out.cell (p := ⟨b1, o1 + i * 2 + 1, none⟩) hb1).trans HS1.out); (have u3 := (HX5.out.cell (p := ⟨b1, o1 + (i + 1) * 2, none⟩) hb1).trans HK2.out); (have u4 := (HX5.out.cell (p := ⟨b1, o1 + (i + 1) * 2 + 1, none⟩) hb1).trans HS2.out)))
              | (go_simp; go_at_call 44; ((with_reducible refine (HXB.out _ ?_).mono ?_); (focus (have _t := hbw; (refine bel_out ?_; (focus (repeat' first | (with_reducible refine bel_refl ?_) | with_reducible assumption | with_reducible refine bel_drew ?_ | with_reducible refine bel_drewN _ ?_ | with_reducible refine bel_alloc _ ?_ | with_reducible refine bel_set ?_ _ ?_ | (with_reducible apply bel_call; with_reducible assumption) | (with_reducible apply bel_owg; with_reducible assumption; (focus omega)) | with_reducible exact Nat.le_refl _ | omega | (simp; done) | (simp; omega)))))); rintro e w6 ⟨A6, e6, rfl, hr6, hty6, hb6⟩; (have HX6 : Hid (Below w.heap.size w w6) := Lib.hid (by have _t := hbw; (refine bel_out ?_; (focus (repeat' first | (with_reducible refine bel_refl ?_) | with_reducible assumption | with_reducible refine bel_drew ?_ | with_reducible refine bel_drewN _ ?_ | with_reducible refine bel_alloc _ ?_ | with_reducible refine bel_set ?_ _ ?_ | (with_reducible apply bel_call; with_reducible assumption) | (with_reducible apply bel_owg; with_reducible assumption; (focus omega)) | with_reducible exact Nat.le_refl _ | omega | (simp; done) | (simp; omega)))))); (have u1 := (HX6.out.cell (p := ⟨b1, o1 + i * 2, none⟩) hb1).trans HK1.out); (have u2 := (HX6.out.cell (p := ⟨b1, o1 + i * 2 + 1, none⟩) hb1).trans HS1.out); (have u3 := (HX6.out.cell (p := ⟨b1, o1 + (i + 1) * 2, none⟩) hb1).trans HK2.out); (have u4 := (HX6.out.cell (p := ⟨b1, o1 + (i + 1) * 2 + 1, none⟩) hb1).trans HS2.out)))
              | (go_must (refine step_append_r _ rfl (.tmp 33) (.tmp 45) 27 rfl 2 32 w.heap.size 32 i1 (.agg #[.int .i64 0, .slice none 0 0]) (REX.stay NoX) (by decide) Tryd.underlying27 hinf hy0 hy1 hy2 rfl (by omega) Ao no co O rfl ?_ _ 2 2 rfl [ex (k2, L2), ex (k1, L1)] [.int .i64 (exK k2), .slice A6 m2 e6, .int .i64 (exK k1), .slice A5 m1 e5] (Reads.litN (n := 2) (cs := #[.int .i64 (exK k2), .slice A6 m2 e6, .int .i64 (exK k1), .slice A5 m1 e5]) rfl) (Fits.two ⟨A6, m2, e6, rfl, ?_, ?_, fun _ _ h => h⟩ ⟨A5, m1, e5, rfl, ?_, ?_, fun _ _ h => h⟩) rfl ?_ ?_ ?_ ?_ ?_; (focus (refine OwR.call (REX.stay NoX) HO.out ?_; (refine bel_out ?_; (focus (repeat' first | (with_reducible refine bel_refl ?_) | with_reducible assumption | with_reducible refine bel_drew ?_ | with_reducible refine bel_drewN _ ?_ | with_reducible refine bel_alloc _ ?_ | with_reducible refine bel_set ?_ _ ?_ | (with_reducible apply bel_call; with_reducible assumption) | (with_reducible apply bel_owg; with_reducible assumption; (focus omega)) | with_reducible exact Nat.le_refl _ | omega | (simp; done) | (simp; omega)))))); (focus (refine RdR.below RS.stay hr6 ?_; (refine bel_out ?_; (focus (repeat' first | (with_reducible refine bel_refl ?_) | with_reducible assumption | with_reducible refine bel_drew ?_ | with_reducible refine bel_drewN _ ?_ | with_reducible refine bel_alloc _ ?_ | with_reducible refine bel_set ?_ _ ?_ | (with_reducible apply bel_call; with_reducible assumption) | (with_reducible apply bel_owg; with_reducible assumption; (focus omega)) | with_reducible exact Nat.le_refl _ | omega | (simp; done) | (simp; omega)))))); (focus (refine TyB.below hty6 ?_; (refine bel_out ?_; (focus (repeat' first | (with_reducible refine bel_refl ?_) | with_reducible assumption | with_reducible refine bel_drew ?_ | with_reducible refine bel_drewN _ ?_ | with_reducible refine bel_alloc _ ?_ | with_reducible refine bel_set ?_ _ ?_ | (with_reducible apply bel_call; with_reducible assumption) | (with_reducible apply bel_owg; with_reducible assumption; (focus omega)) | with_reducible exact Nat.le_refl _ | omega | (simp; done) | (simp; omega)))))); (focus (refine RdR.below RS.stay hr5 ?_; (refine bel_out ?_; (focus (repeat' first | (with_reducible refine bel_refl ?_) | with_reducible assumption | with_reducible refine bel_drew ?_ | with_reducible refine bel_drewN _ ?_ | with_reducible refine bel_alloc _ ?_ | with_reducible refine bel_set ?_ _ ?_ | (with_reducible apply bel_call; with_reducible assumption) | (with_reducible apply bel_owg; with_reducible assumption; (focus omega)) | with_reducible exact Nat.le_refl _ | omega | (simp; done) | (simp; omega)))))); (focus (refine TyB.below hty5 ?_; (refine bel_out ?_; (focus (repeat' first | (with_reducible refine bel_refl ?_) | with_reducible assumption | with_reducible refine bel_drew ?_ | with_reducible refine bel_drewN _ ?_ | with_reducible refine bel_alloc _ ?_ | with_reducible refine bel_set ?_ _ ?_ | (with_reducible apply bel_call; with_reducible assumption) | (with_reducible apply bel_owg; with_reducible assumption; (focus omega)) | with_reducible exact Nat.le_refl _ | omega | (simp; done) | (simp; omega)))))); (focus (simp [Value.oneCell'])); (focus (unfold maxLen; omega)); (focus omega); (focus (have _s5 := HX5.out.size; have _s6 := HX6.out.size; first | (rw [size_alloc_]; omega) | (rw [size_drew, size_alloc_]; omega) | (simp [size_alloc_, size_drew]; omega))); intro A7 e7 w7 ho7 hg7)))
            all_goals
              have hb7 : Below w.heap.size w w7 := by
                refine Below.trans ?_ hg7.b
                (refine bel_out ?_; (focus (repeat' first | (with_reducible refine bel_refl ?_) | with_reducible assumption | with_reducible refine bel_drew ?_ | with_reducible refine bel_drewN _ ?_ | with_reducible refine bel_alloc _ ?_ | with_reducible refine bel_set ?_ _ ?_ | (with_reducible apply bel_call; with_reducible assumption) | (with_reducible apply bel_owg; with_reducible assumption; (focus omega)) | with_reducible exact Nat.le_refl _ | omega | (simp; done) | (simp; omega))))
              go_wp2_with fail
              go_roundw
              case rel => exact ⟨i + 2, A7, no + 2, e7, _, by omega, by go_num, rfl, ho7, by omega, hb7, HI2⟩
              case measure => (simp [intOf]; try omega)
          · have dk4 : (k2 == 3) = false := by rw [beq_eq_false_iff_ne]; exact hk4
            have HI2 : Hid (O ++ [ex (k1, L1)] ++ inv (E.drop (i + 1)) = inv E) := Lib.hid (by rw [← HI.out, inv_single HE1.out (Or.inr (fun f hf => by rw [HE2.out] at hf; injection hf with hf; rw [← hf]; exact hk4))]; simp)
            clear hk2 hk4
            have HO := Lib.hid hO
            have HXC := Lib.hid (HX.out k1 B1 m1 d1 L1 wr HR1.out hm1 hbw)
            clear hO
            go_wp2_with fail
            go_at_call 44
            refine HXC.out.mono ?_
            rintro e w5 ⟨A5, c5, rfl, hr5, hty5, hb5⟩
            have hal : Below w5.heap.size w5 (w5.alloc (.cells #[.int .i64 (exK k1), .slice A5 m1 c5] 32)) := (Below.refl _ _).alloc (Nat.le_refl _) _
            have HOA := Lib.hid ((HO.out.call (REX.stay NoX) hb5).call (REX.stay NoX) hal)
            have HFA : Hid (Fits (REX NoX) 2 (w5.alloc (.cells #[.int .i64 (exK k1), .slice A5 m1 c5] 32)) [ex (k1, L1)] [.int .i64 (exK k1), .slice A5 m1 c5]) := Lib.hid (Fits.one rfl ⟨A5, m1, c5, rfl, hr5.below RS.stay hal, hty5.below hal, fun _ _ h => h⟩)
            have hb05 := below_call hbw hb5
            have hsz5 := hb05.size
            clear hr5 hty5 hb5 hal HXC
            go_wp2_with (first
              | (at_builtin; go_must (refine wpList_append_r _ rfl (.tmp 49) (.tmp 55) 27 rfl 2 32 w.heap.size 32 i1 (.agg #[.int .i64 0, .slice none 0 0]) (REX.stay NoX) (by decide) Tryd.underlying27 hinf hy0 hy1 hy2 rfl (by omega) Ao no co O rfl HOA.out (some ⟨w5.heap.size, 0, none⟩) 1 1 rfl [ex (k1, L1)] [.int .i64 (exK k1), .slice A5 m1 c5] (Reads.lit (cs := #[.int .i64 (exK k1), .slice A5 m1 c5]) rfl) HFA.out rfl ?_ ?_ ?_ ?_ ?_; (focus (simp [Value.oneCell'])); (focus (unfold maxLen; omega)); (focus omega); (focus (rw [size_alloc_]; omega)); intro A7 c7 w7 ho7 hg7; (have hb7 : Below w.heap.size w w7 := (hb05.alloc hsz5 _).trans hg7.b))))
            go_roundw
            case rel => exact ⟨i + 1, A7, no + 1, c7, _, by omega, by go_num, rfl, ho7, by omega, hb7, HI2⟩
            case measure => (simp [intOf]; try omega)
        · have dl : decide ((i : Int) + 1 < (n : Int)) = false := decide_eq_false (by omega)
          have p3 : (n : Int) ≤ (i : Int) + 1 := by omega
          have h9 : E[i + 1]? = none := List.getElem?_eq_none (by rw [← HN.out]; omega)
          have h10 : ∀ f, E[i + 1]? = some f → f.1 ≠ 3 := fun f hf => by rw [h9] at hf; cases hf
          have HI2 : Hid (O ++ [ex (k1, L1)] ++ inv (E.drop (i + 1)) = inv E) := Lib.hid (by rw [← HI.out, inv_single HE1.out (Or.inr h10)]; simp)
          clear h9 h10
          subst hA
          clear hk2
          have HO := Lib.hid hO
          have HXC := Lib.hid (HX.out k1 B1 m1 d1 L1 wr HR1.out hm1 hbw)
          clear hO
          go_wp2_with fail
          go_at_call 44
          refine HXC.out.mono ?_
          rintro e w5 ⟨A5, c5, rfl, hr5, hty5, hb5⟩
          have hal : Below w5.heap.size w5 (w5.alloc (.cells #[.int .i64 (exK k1), .slice A5 m1 c5] 32)) := (Below.refl _ _).alloc (Nat.le_refl _) _
          have HOA := Lib.hid ((HO.out.call (REX.stay NoX) hb5).call (REX.stay NoX) hal)
          have HFA : Hid (Fits (REX NoX) 2 (w5.alloc (.cells #[.int .i64 (exK k1), .slice A5 m1 c5] 32)) [ex (k1, L1)] [.int .i64 (exK k1), .slice A5 m1 c5]) := Lib.hid (Fits.one rfl ⟨A5, m1, c5, rfl, hr5.below RS.stay hal, hty5.below hal, fun _ _ h => h⟩)
          have hb05 := below_call hbw hb5
          have hsz5 := hb05.size
          clear hr5 hty5 hb5 hal HXC
          go_wp2_with (first
            | (at_builtin; go_must (refine wpList_append_r _ rfl (.tmp 49) (.tmp 55) 27 rfl 2 32 w.heap.size 32 i1 (.agg #[.int .i64 0, .slice none 0 0]) (REX.stay NoX) (by decide) Tryd.underlying27 hinf hy0 hy1 hy2 rfl (by omega) Ao no co O rfl HOA.out (some ⟨w5.heap.size, 0, none⟩) 1 1 rfl [ex (k1, L1)] [.int .i64 (exK k1), .slice A5 m1 c5] (Reads.lit (cs := #[.int .i64 (exK k1), .slice A5 m1 c5]) rfl) HFA.out rfl ?_ ?_ ?_ ?_ ?_; (focus (simp [Value.oneCell'])); (focus (unfold maxLen; omega)); (focus omega); (focus (rw [size_alloc_]; omega)); intro A7 c7 w7 ho7 hg7; (have hb7 : Below w.heap.size w w7 := (hb05.alloc hsz5 _).trans hg7.b))))
          go_roundw
          case rel => exact ⟨i + 1, A7, no + 1, c7, _, by omega, by go_num, rfl, ho7, by omega, hb7, HI2⟩
          case measure => (simp [intOf]; try omega)
      · have dk : (k1 == 2) = false := by rw [beq_eq_false_iff_ne]; exact hk2
        have HI2 : Hid (O ++ [ex (k1, L1)] ++ inv (E.drop (i + 1)) = inv E) := Lib.hid (by rw [← HI.out, inv_single HE1.out (Or.inl hk2)]; simp)
        subst hA
        clear hk2
        have HO := Lib.hid hO
        have HXC := Lib.hid (HX.out k1 B1 m1 d1 L1 wr HR1.out hm1 hbw)
        clear hO
        go_wp2_with fail
        go_at_call 44
        refine HXC.out.mono ?_
        rintro e w5 ⟨A5, c5, rfl, hr5, hty5, hb5⟩
        have hal : Below w5.heap.size w5 (w5.alloc (.cells #[.int .i64 (exK k1), .slice A5 m1 c5] 32)) := (Below.refl _ _).alloc (Nat.le_refl _) _
        have HOA := Lib.hid ((HO.out.call (REX.stay NoX) hb5).call (REX.stay NoX) hal)
        have HFA : Hid (Fits (REX NoX) 2 (w5.alloc (.cells #[.int .i64 (exK k1), .slice A5 m1 c5] 32)) [ex (k1, L1)] [.int .i64 (exK k1), .slice A5 m1 c5]) := Lib.hid (Fits.one rfl ⟨A5, m1, c5, rfl, hr5.below RS.stay hal, hty5.below hal, fun _ _ h => h⟩)
        have hb05 := below_call hbw hb5
        have hsz5 := hb05.size
        clear hr5 hty5 hb5 hal HXC
        go_wp2_with (first
          | (at_builtin; go_must (refine wpList_append_r _ rfl (.tmp 49) (.tmp 55) 27 rfl 2 32 w.heap.size 32 i1 (.agg #[.int .i64 0, .slice none 0 0]) (REX.stay NoX) (by decide) Tryd.underlying27 hinf hy0 hy1 hy2 rfl (by omega) Ao no co O rfl HOA.out (some ⟨w5.heap.size, 0, none⟩) 1 1 rfl [ex (k1, L1)] [.int .i64 (exK k1), .slice A5 m1 c5] (Reads.lit (cs := #[.int .i64 (exK k1), .slice A5 m1 c5]) rfl) HFA.out rfl ?_ ?_ ?_ ?_ ?_; (focus (simp [Value.oneCell'])); (focus (unfold maxLen; omega)); (focus omega); (focus (rw [size_alloc_]; omega)); intro A7 c7 w7 ho7 hg7; (have hb7 : Below w.heap.size w w7 := (hb05.alloc hsz5 _).trans hg7.b))))
        go_roundw
        case rel => exact ⟨i + 1, A7, no + 1, c7, _, by omega, by go_num, rfl, ho7, by omega, hb7, HI2⟩
        case measure => (simp [intOf]; try omega)
    · obtain rfl : i = n := by omega
      have hi2 : (i : Int) ≤ (i : Int) := by omega
      have HF : Hid (O = inv E) := Lib.hid (by have := HI.out; rw [List.drop_of_length_le (by rw [← HN.out]; exact Nat.le_refl _)] at this; simpa [inv] using this)
      have HO := Lib.hid hO
      clear hO
      go_wp2
      go_ret
      exact ⟨Ao, no, co, rfl, by rw [← HF.out]; exact HO.out.rd, hbw⟩
end Go.Proofs.YtakbpdlfgjfbeaaDoor
