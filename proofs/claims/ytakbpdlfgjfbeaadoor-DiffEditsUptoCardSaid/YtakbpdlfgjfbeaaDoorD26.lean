/- The walk of DiffApplies. -/
import Derived.Test.YtakbpdlfgjfbeaaDoorD19
import Derived.Test.YtakbpdlfgjfbeaaDoorD22
import Derived.Test.YtakbpdlfgjfbeaaDoorD25
namespace Go.Proofs.YtakbpdlfgjfbeaaDoor
open Go.RowKit
set_option linter.unusedSimpArgs false
set_option linter.unusedVariables false

theorem inv_small {m : Nat} : ∀ {E : List Ed}, Small E m → Small (inv E) m
  | [], _ => by intro e he; simp [inv] at he
  | [a], h => by
    intro e he
    rw [inv] at he
    rw [List.mem_singleton.1 he]
    exact h a (List.mem_singleton.2 rfl)
  | a :: b :: r, h => by
    have h0 : Small (inv r) m := inv_small fun e he => h e (List.mem_cons_of_mem _ (List.mem_cons_of_mem _ he))
    have h1 : Small (inv (b :: r)) m := inv_small fun e he => h e (List.mem_cons_of_mem _ he)
    intro e he
    rw [inv] at he
    split at he
    · rcases List.mem_cons.1 he with rfl | he
      · exact h b (by simp)
      · rcases List.mem_cons.1 he with rfl | he
        · exact h a (by simp)
        · exact h0 e he
    · rcases List.mem_cons.1 he with rfl | he
      · exact h a (by simp)
      · exact h1 e he
/-- Apply, where the edits fit -/
def ApOk (t u : ByteArray) (E : List Ed) (m : Int) : Prop := ∀ (W : World) (A : Option Addr) (n c : Nat), W.cell? ⟨0, 0, none⟩ = some (.int .i64 m) → RdR RE 2 W A n c E → Calls Tryd.prog 25 #[.string t, .slice A n c] W fun e w' => e = .returned (.tuple #[.string u, .int .i64 0]) ∧ Below W.heap.size W w'
def InOk (E : List Ed) : Prop := ∀ (W : World) (A : Option Addr) (n c : Nat), RdR RE 2 W A n c E → Calls Tryd.prog 26 #[.slice A n c] W (RRead W (inv E))
theorem apOk (x y : ByteArray) (m : Int) (hx : x.size ≤ 1000) (hy : y.size ≤ 1000) : ApOk x y (EI (edits (LN x) (LN y))) m := by
  intro W A n c hm hE
  have hn : n ≤ 100000 := by rw [hE.len]; have := EIe_len x y hx hy; omega
  have h := apply_any x A n c _ m W hm (by omega) hE hn (by rw [(edits_src _ _).2, cat_LN]; omega)
  rwa [apV_yes (applies_edits _ _), (edits_src _ _).2, cat_LN] at h
theorem apInv (x y : ByteArray) (m : Int) (hx : x.size ≤ 1000) (hy : y.size ≤ 1000) : ApOk y x (inv (EI (edits (LN x) (LN y)))) m := by
  intro W A n c hm hE
  have hn : n ≤ 100000 := by rw [hE.len, inv_len]; have := EIe_len x y hx hy; omega
  have e1 := (inv_src (EI (edits (LN x) (LN y)))).1
  have e2 := (inv_src (EI (edits (LN x) (LN y)))).2
  rw [(edits_src _ _).2] at e1
  rw [(edits_src _ _).1] at e2
  have h := apply_any y A n c _ m W hm (by omega) hE hn (by rw [e2, cat_LN]; omega)
  rwa [apV_yes ⟨inv_ok (edits_ok _ _), e1.symm⟩, e2, cat_LN] at h
theorem inOk (E : List Ed) (hl : E.length ≤ 100000) (hs : Small E 100000) : InOk E := by
  intro W A n c hE
  exact (invert_any A n c E W hE (by rw [hE.len]; exact hl) hs).mono fun _ _ h => RRead.of h
/-- what the walk asks of two texts -/
structure Two (m : Int) (x y : ByteArray) (E : List Ed) : Prop where
  diff : ∀ W : World, W.cell? ⟨0, 0, none⟩ = some (.int .i64 m) → Calls Tryd.prog 14 #[.string x, .string y] W (RRead W E)
  ap : ApOk x y E m
  apI : ApOk y x (inv E) m
  iv : InOk E
  iv2 : InOk (inv E)
  same : inv (inv E) = E
  len : E.length ≤ 7000
theorem two (m : Int) (x y : ByteArray) (hx : x.size ≤ 1000) (hy : y.size ≤ 1000) : Two m x y (EI (edits (LN x) (LN y))) := by
  have hl := EIe_len x y hx hy
  have hs := EI_small x y hx hy
  exact ⟨diffOk m x y hx hy, apOk x y m hx hy, apInv x y m hx hy, inOk _ (by omega) hs, inOk _ (by rw [inv_len]; omega) (inv_small hs), inv_inv_edits _ _, hl⟩

set_option maxRecDepth 100000 in
set_option maxHeartbeats 8000000 in
theorem applies_law (a b : ByteArray) (A : Option Addr) (n c : Nat) (zs : List Int) (m : Int) (w : World) (hr : RdZ w A n c zs) (hm : w.cell? ⟨0, 0, none⟩ = some (.int .i64 m)) (ha9 : a.size ≤ 9223372036854775807) (hb9 : b.size ≤ 9223372036854775807) :
    Calls Tryd.prog 7 #[.string a, .string b, .slice A n c] w fun e w' => e = .returned (.bool true) ∧ Below w.heap.size w w' := by
  have h00 : 0 < w.heap.size := World.block_lt_of_cell? w _ hm
  have HK := Lib.hid (knownOk m)
  have HM := Lib.hid hm
  have HP := Lib.hid (pair_any A n c zs w hr)
  clear hm hr
  by_cases h1 : a.size ≤ 200
  · by_cases h2 : b.size ≤ 200
    · obtain ⟨E, HT⟩ : ∃ E, Hid (Two m a b E) := ⟨_, Lib.hid (two m a b (by omega) (by omega))⟩
      have HTT : Hid (∀ x y : ByteArray, x.size ≤ 150 → y.size ≤ 150 → Two m x y (EI (edits (LN x) (LN y)))) := Lib.hid fun x y hx hy => two m x y (by omega) (by omega)
      have d1 : decide ((200 : Int) < (a.size : Int)) = false := decide_eq_false (by omega)
      have d2 : decide ((200 : Int) < (b.size : Int)) = false := decide_eq_false (by omega)
      have d3 : decide (200 < a.size) = false := decide_eq_false (by omega)
      have d4 : decide (200 < b.size) = false := decide_eq_false (by omega)
      go_enter Tryd.func7, Tryd.ntmps7
      go_wp2_with fail
      go_at_call 12
      refine HP.out.mono ?_
      rintro e w1 ⟨x, y, rfl, hx, hy, hb1⟩
      obtain ⟨F, HU⟩ : ∃ F, Hid (Two m x y F) := ⟨_, Lib.hid (HTT.out x y hx hy)⟩
      clear HTT HP hx hy
      go_wp2_with fail
      go_at_call 14
      refine (HT.out.diff w1 ((hb1.cell h00).trans HM.out)).mono ?_
      rintro e w2 ⟨A2, n2, c2, rfl, hE2, hb2⟩
      have hb02 := below_call hb1 hb2
      have H2 := Lib.hid hE2
      clear hb1 hb2 hE2
      go_wp2_with fail
      go_at_call 14
      refine (HU.out.diff w2 ((hb02.cell h00).trans HM.out)).mono ?_
      rintro e w3 ⟨A3, n3, c3, rfl, hE3, hb3⟩
      have hb03 := below_call hb02 hb3
      have H2 := Lib.hid (RdE.below H2.out hb3)
      have H3 := Lib.hid hE3
      clear hb02 hb3 hE3
      go_wp2_with fail
      go_at_call 25
      refine (HT.out.ap w3 A2 n2 c2 ((hb03.cell h00).trans HM.out) H2.out).mono ?_
      rintro e w4 ⟨rfl, hb4⟩
      have hb04 := below_call hb03 hb4
      have H2 := Lib.hid (RdE.below H2.out hb4)
      have H3 := Lib.hid (RdE.below H3.out hb4)
      clear hb03 hb4
      go_wp2_with fail
      go_at_call 25
      refine (HU.out.ap w4 A3 n3 c3 ((hb04.cell h00).trans HM.out) H3.out).mono ?_
      rintro e w5 ⟨rfl, hb5⟩
      have hb05 := below_call hb04 hb5
      have H2 := Lib.hid (RdE.below H2.out hb5)
      have H3 := Lib.hid (RdE.below H3.out hb5)
      clear hb04 hb5
      go_wp2_with fail
      go_at_call 26
      refine (HT.out.iv w5 A2 n2 c2 H2.out).mono ?_
      rintro e w6 ⟨A6, n6, c6, rfl, hE6, hb6⟩
      have hb06 := below_call hb05 hb6
      have H3 := Lib.hid (RdE.below H3.out hb6)
      have H6 := Lib.hid hE6
      clear hb05 hb6 hE6 H2
      go_wp2_with fail
      go_at_call 25
      refine (HT.out.apI w6 A6 n6 c6 ((hb06.cell h00).trans HM.out) H6.out).mono ?_
      rintro e w7 ⟨rfl, hb7⟩
      have hb07 := below_call hb06 hb7
      have H3 := Lib.hid (RdE.below H3.out hb7)
      clear hb06 hb7 H6
      go_wp2_with fail
      go_at_call 26
      refine (HU.out.iv w7 A3 n3 c3 H3.out).mono ?_
      rintro e w8 ⟨A8, n8, c8, rfl, hE8, hb8⟩
      have hb08 := below_call hb07 hb8
      have H3 := Lib.hid (RdE.below H3.out hb8)
      have H8 := Lib.hid hE8
      clear hb07 hb8 hE8
      go_wp2_with fail
      go_at_call 25
      refine (HU.out.apI w8 A8 n8 c8 ((hb08.cell h00).trans HM.out) H8.out).mono ?_
      rintro e w9 ⟨rfl, hb9'⟩
      have hb09 := below_call hb08 hb9'
      have H3 := Lib.hid (RdE.below H3.out hb9')
      clear hb08 hb9' H8
      have qa : (a.toList == a.toList) = true := by simp
      have qb : (b.toList == b.toList) = true := by simp
      have qx : (x.toList == x.toList) = true := by simp
      have qy : (y.toList == y.toList) = true := by simp
      go_wp2_with fail
      go_at_call 26
      refine (HU.out.iv w9 A3 n3 c3 H3.out).mono ?_
      rintro e w10 ⟨A10, n10, c10, rfl, hE10, hb10⟩
      have hb010 := below_call hb09 hb10
      have H3 := Lib.hid (RdE.below H3.out hb10)
      have H10 := Lib.hid hE10
      clear hb09 hb10 hE10
      go_wp2_with fail
      go_at_call 26
      refine (HU.out.iv2 w10 A10 n10 c10 H10.out).mono ?_
      rintro e w11 ⟨A11, n11, c11, rfl, hE11, hb11⟩
      rw [HU.out.same] at hE11
      have hb011 := below_call hb010 hb11
      have HS := Lib.hid (same_true A11 n11 c11 A3 n3 c3 F w11 hE11 (RdE.below H3.out hb11) (by rw [hE11.len]; have := HU.out.len; omega))
      clear hb010 hb11 hE11 H10
      go_wp2_with fail
      go_at_call 13
      refine HS.out.mono ?_
      rintro e w12 ⟨rfl, hb12⟩
      have hb012 := below_call hb011 hb12
      clear HS hb011 hb12
      go_wp2_with fail
      go_at_call 11
      refine (HK.out w12 ((hb012.cell h00).trans HM.out)).mono ?_
      rintro e w13 ⟨rfl, hb13⟩
      go_wp2_with fail
      go_ret
      exact ⟨rfl, below_call hb012 hb13⟩
    · have d1 : decide ((200 : Int) < (a.size : Int)) = false := decide_eq_false (by omega)
      have d2 : decide ((200 : Int) < (b.size : Int)) = true := decide_eq_true (by omega)
      have d3 : decide (200 < a.size) = false := decide_eq_false (by omega)
      have d4 : decide (200 < b.size) = true := decide_eq_true (by omega)
      go_enter Tryd.func7, Tryd.ntmps7
      go_wp2_with fail
      go_at_call 11
      refine (HK.out w HM.out).mono ?_
      rintro e w8 ⟨rfl, hb8⟩
      go_wp2_with fail
      go_ret
      exact ⟨rfl, hb8⟩
  · have d1 : decide ((200 : Int) < (a.size : Int)) = true := decide_eq_true (by omega)
    have d3 : decide (200 < a.size) = true := decide_eq_true (by omega)
    go_enter Tryd.func7, Tryd.ntmps7
    go_wp2_with fail
    go_at_call 11
    refine (HK.out w HM.out).mono ?_
    rintro e w8 ⟨rfl, hb8⟩
    go_wp2_with fail
    go_ret
    exact ⟨rfl, hb8⟩
end Go.Proofs.YtakbpdlfgjfbeaaDoor
