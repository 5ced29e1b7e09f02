/- The walk of ChangeApart. -/
import Derived.Test.YtbeijpajodgpeaaDoorG9
import Derived.Test.YtbeijpajodgpeaaDoorG7
import Derived.Test.YtbeijpajodgpeaaDoorG12
namespace Go.Proofs.YtbeijpajodgpeaaDoor
open Go.RowKit
set_option linter.unusedSimpArgs false
set_option linter.unusedVariables false

theorem Fits.cells1 {w : World} {L : List Cg} {xs : List Value} (h : Fits RCT 10 w L xs) (hl : xs.length = L.length * 10) : ∀ u ∈ xs, u.oneCell' = true := by
  intro u hu
  obtain ⟨i, hi, rfl⟩ := List.getElem_of_mem hu
  have hk : i / 10 < L.length := by omega
  obtain ⟨A, n, c, e, _⟩ := h (i / 10) _ (List.getElem?_eq_getElem hk)
  have hm : xs[i] ∈ (xs.drop (i / 10 * 10)).take 10 := by
    refine List.mem_of_getElem? (i := i % 10) ?_
    rw [List.getElem?_take, if_pos (by omega), List.getElem?_drop, show i / 10 * 10 + i % 10 = i by omega]
    exact List.getElem?_eq_getElem hi
  rw [e] at hm
  simp only [Cg.cells, List.mem_cons, List.not_mem_nil, or_false] at hm
  rcases hm with h | h | h | h | h | h | h | h | h | h <;> rw [h] <;> rfl
theorem set_gr (w : World) (g i : Nat) (v : Value) : w.grownBy (w.setCell ⟨g, i, none⟩ v) (some g) :=
  ⟨rfl, rfl, rfl, by simp [World.setCell], fun k _ hne => Below.heap_setCell w _ v k (fun e => hne (by rw [e]))⟩
/-- the first change of an own row -/
theorem OwC.head {w : World} {base n c : Nat} {A : Option Addr} {L : List Cg} (h : OwR RCT 10 w base 31 A n c L) (h0 : 0 < L.length) : ∃ (g Ah : _) (nh ch : Nat), A = some ⟨g, 0, none⟩ ∧ base ≤ g ∧ g < w.heap.size ∧ (∀ i, w.frozen? ⟨g, i, none⟩ = false) ∧ (∀ i v, ((L.getD 0 cg0).cells Ah nh ch)[i]? = some v → w.cell? ⟨g, i, none⟩ = some v) ∧ RdR RV 6 w Ah nh ch (L.getD 0 cg0).hs ∧ TyB w 67 Ah := by
  have hlen := h.len
  obtain ⟨xs, h1, h2⟩ := h.own
  have hx : xs.length = n * 10 := h1.1
  obtain ⟨Ah, nh, ch, e, hrd, hty⟩ := h2 0 _ (List.getElem?_eq_getElem h0)
  have hD : L.getD 0 cg0 = L[0] := by simp [List.getD, List.getElem?_eq_getElem h0]
  rw [hD]
  have hr := (Reads.of_own h1).2 (by omega)
  rcases h1.2 with ⟨e1, e2⟩ | ⟨g, cap, cur, hv, hb, hh, _⟩
  · injection e1 with _ e1; omega
  · injection hv with e1
    obtain ⟨ad, e3, hlt, hc⟩ := hr
    rw [e1] at e3
    injection e3 with e3
    subst e3
    refine ⟨g, Ah, nh, ch, e1, hb, hlt, Blk.frozen hh, fun i v hi => ?_, hrd, hty⟩
    rw [← e, List.getElem?_take] at hi
    split at hi
    · rw [List.getElem?_drop, Nat.zero_mul, Nat.zero_add] at hi
      have := hc i v hi
      have e5 : (⟨g, 0, none⟩ : Addr).add i = ⟨g, i, none⟩ := by
        unfold Addr.add
        by_cases h0 : i = 0
        · subst h0; simp
        · simp [h0]
      rw [e5] at this
      exact this
    · cases hi
theorem ten_set {xs : List Value} (h : 10 ≤ xs.length) (v0 v1 v2 v3 v4 v5 v6 v7 v8 v9 : Value) : ((((((((((xs.set 0 v0).set 1 v1).set 2 v2).set 3 v3).set 4 v4).set 5 v5).set 6 v6).set 7 v7).set 8 v8).set 9 v9) = [v0, v1, v2, v3, v4, v5, v6, v7, v8, v9] ++ xs.drop 10 := by
  match xs, h with
  | x0 :: x1 :: x2 :: x3 :: x4 :: x5 :: x6 :: x7 :: x8 :: x9 :: r, _ => rfl
/-- the first change of an own row is stored -/
theorem OwC.ten {w : World} {base n c g : Nat} {L : List Cg} (h : OwR RCT 10 w base 31 (some ⟨g, 0, none⟩) n c L) (h0 : 0 < L.length) (C : Cg) {A : Option Addr} {nh ch : Nat} (hrd : RdR RV 6 w A nh ch C.hs) (hty : TyB w 67 A) :
    OwR RCT 10 ((((((((((w.setCell ⟨g, 0, none⟩ (.int .i64 C.kd)).setCell ⟨g, 1, none⟩ (.string C.us)).setCell ⟨g, 2, none⟩ (.string C.nt)).setCell ⟨g, 3, none⟩ (.int .i64 C.ts)).setCell ⟨g, 4, none⟩ (.string C.tn)).setCell ⟨g, 5, none⟩ (.int .i64 C.os)).setCell ⟨g, 6, none⟩ (.string C.on)).setCell ⟨g, 7, none⟩ (.string C.tx)).setCell ⟨g, 8, none⟩ (.int .i64 C.n)).setCell ⟨g, 9, none⟩ (.slice A nh ch)) base 31 (some ⟨g, 0, none⟩) n c (L.set 0 C) := by
  have hlen := h.len
  have hcap := h.cap
  have hmax := h.max
  obtain ⟨xs, h1, h2⟩ := h.own
  have hx : xs.length = n * 10 := h1.1
  have hbt : ∃ cs t', w.heap[g]? = some (.cells cs t' (0, 0)) ∧ t' ≠ 67 := by
    rcases h1.2 with ⟨e1, e2⟩ | ⟨g2, cap, cur, hv, hb, hh, _⟩
    · injection e1 with e1 _; cases e1
    · injection hv with e1
      injection e1 with e1
      injection e1 with e1
      subst e1
      exact ⟨cur, _, hh, by decide⟩
  have a0 := (World.ownsRow.stored h1 0 (.int .i64 C.kd)).1
  have a1 := (World.ownsRow.stored a0 1 (.string C.us)).1
  have a2 := (World.ownsRow.stored a1 2 (.string C.nt)).1
  have a3 := (World.ownsRow.stored a2 3 (.int .i64 C.ts)).1
  have a4 := (World.ownsRow.stored a3 4 (.string C.tn)).1
  have a5 := (World.ownsRow.stored a4 5 (.int .i64 C.os)).1
  have a6 := (World.ownsRow.stored a5 6 (.string C.on)).1
  have a7 := (World.ownsRow.stored a6 7 (.string C.tx)).1
  have a8 := (World.ownsRow.stored a7 8 (.int .i64 C.n)).1
  have a9 := (World.ownsRow.stored a8 9 (.slice A nh ch)).1
  rw [ten_set (by omega)] at a9
  have q0 := set_gr w g 0 (.int .i64 C.kd)
  have q1 := q0.trans (set_gr _ g 1 (.string C.us))
  have q2 := q1.trans (set_gr _ g 2 (.string C.nt))
  have q3 := q2.trans (set_gr _ g 3 (.int .i64 C.ts))
  have q4 := q3.trans (set_gr _ g 4 (.string C.tn))
  have q5 := q4.trans (set_gr _ g 5 (.int .i64 C.os))
  have q6 := q5.trans (set_gr _ g 6 (.string C.on))
  have q7 := q6.trans (set_gr _ g 7 (.string C.tx))
  have q8 := q7.trans (set_gr _ g 8 (.int .i64 C.n))
  have q9 := q8.trans (set_gr _ g 9 (.slice A nh ch))
  clear q0 q1 q2 q3 q4 q5 q6 q7 q8 a0 a1 a2 a3 a4 a5 a6 a7 a8
  generalize ((((((((((w.setCell ⟨g, 0, none⟩ (.int .i64 C.kd)).setCell ⟨g, 1, none⟩ (.string C.us)).setCell ⟨g, 2, none⟩ (.string C.nt)).setCell ⟨g, 3, none⟩ (.int .i64 C.ts)).setCell ⟨g, 4, none⟩ (.string C.tn)).setCell ⟨g, 5, none⟩ (.int .i64 C.os)).setCell ⟨g, 6, none⟩ (.string C.on)).setCell ⟨g, 7, none⟩ (.string C.tx)).setCell ⟨g, 8, none⟩ (.int .i64 C.n)).setCell ⟨g, 9, none⟩ (.slice A nh ch)) = w2 at *
  have hbt2 : ∀ q, some g = some q → ∃ cs t', w.heap[q]? = some (.cells cs t' (0, 0)) ∧ t' ≠ 67 := fun q hq => by injection hq with hq; subst hq; exact hbt
  refine ⟨by rw [List.length_set]; exact hlen, hcap, hmax, _, a9, ?_⟩
  intro k b hk
  have hR : ∀ (a : Cg) (cs : List Value), RCT w a cs → RCT w2 a cs := fun a cs ha => RCT.stay.grown w w2 a cs (some g) q9 hbt2 ha
  match L, h0 with
  | a :: t, _ =>
    cases k with
    | zero =>
      simp only [List.set_cons_zero, List.getElem?_cons_zero, Option.some.injEq] at hk
      subst hk
      rw [Nat.zero_mul, List.drop_zero]
      exact hR C _ ⟨A, nh, ch, rfl, hrd, hty⟩
    | succ k =>
      simp only [List.set_cons_zero, List.getElem?_cons_succ] at hk
      have h5 := hR _ _ (h2 (k + 1) b (by simpa using hk))
      show RCT w2 b ((List.drop ((k + 1) * 10) ([Value.int .i64 C.kd, .string C.us, .string C.nt, .int .i64 C.ts, .string C.tn, .int .i64 C.os, .string C.on, .string C.tx, .int .i64 C.n, .slice A nh ch] ++ xs.drop 10)).take 10)
      have e6 : List.drop ((k + 1) * 10) ([Value.int .i64 C.kd, .string C.us, .string C.nt, .int .i64 C.ts, .string C.tn, .int .i64 C.os, .string C.on, .string C.tx, .int .i64 C.n, .slice A nh ch] ++ xs.drop 10) = xs.drop ((k + 1) * 10) := by
        rw [List.drop_append, List.drop_of_length_le (by show 10 ≤ _; omega), List.nil_append, List.drop_drop]
        congr 1
        show 10 + ((k + 1) * 10 - 10) = _
        omega
      rw [e6]
      exact h5
theorem enc_same {L M : List Cg} (h : ecE L = 0) (h2 : ecE M = 0) : decide (encL L = encL M) = decide (L = M) := by
  by_cases e : L = M
  · subst e; simp
  · rw [decide_eq_false e, decide_eq_false (fun e2 => e (encL_inj h h2 e2))]
set_option maxRecDepth 100000 in
set_option maxHeartbeats 16000000 in
theorem apart_walk (A : Option Addr) (n c : Nat) (zs : List Int) (B : Option Addr) (m d : Nat) (ms : List Int) (how x xm : Int) (w : World) (hr : RdN w A n c zs) (hrm : RdN w B m d ms) (hx : Hm xm w) :
    Calls Tryd.prog 3 #[.slice A n c, .slice B m d, .int .i64 how, .int .i64 x] w fun e w' => e = .returned (.bool true) ∧ Below w.heap.size w w' := by
  obtain ⟨i0, hi0, hz0, hz1, hz2⟩ := info_parts cg_info
  have HA := Lib.hid fun (W : World) (hW : Below w.heap.size w W) => awake_any xm W (hx.below hW)
  have HX := Lib.hid fun (W : World) (hW : Below w.heap.size w W) => hx.below hW
  have HF := Lib.hid (from_sg A n c zs w w hr (Below.refl _ _))
  have HRM : Hid (∀ W, Below w.heap.size w W → RdN W B m d ms) := Lib.hid fun W hW => ⟨hrm.len, hrm.cap, hrm.max, (hrm.reads.below hW).more hW.size⟩
  have hub : ∀ b : Bool, (some undef = some (Value.bool b)) = False := fun b => by simp [undef]
  have hub2 : ∀ b : Bool, (undef = Value.bool b) = False := fun b => by simp [undef]
  clear hr hrm hx
  go_enter Tryd.func3, Tryd.ntmps3
  go_wp2_with fail
  go_at_call 11
  refine HF.out.mono ?_
  rintro e w1 ⟨g, rfl, hS1, hb1⟩
  go_wp2_with fail
  go_at_call 10
  refine (changes_mk w g A n c zs 0 w1 hS1 (by omega)).mono ?_
  rintro e w2 ⟨A2, n2, c2, L, rfl, ho, hmc, hl1, hl2, hS2, hg2⟩
  have hb2 := hS2.b
  have HE : Hid (ecE L = 0) := Lib.hid (MC.list hmc hl1 (by omega))
  have HMC := Lib.hid hmc
  have HLN := Lib.hid ho.len
  have HL := Lib.hid (And.intro hl1 hl2)
  have HO := Lib.hid (OwC.rd ho)
  obtain ⟨xs, hxo, hxf⟩ := ho.own
  have HXR := Lib.hid (Reads.of_own hxo)
  have HXF := Lib.hid hxf
  have HX1 := Lib.hid (Fits.cells1 hxf (by rw [← HLN.out]; exact hxo.1))
  have hn2 : n2 ≤ 2 ∧ 1 ≤ n2 := by have := HLN.out; omega
  clear hS1 hS2 hg2 hb1 ho hmc hl1 hl2 HF hxo hxf
  go_upto_region 3 with (at_builtin; go_must (refine wpList_append_r _ rfl (.const (.slice none 0 0)) (.tmp 21) 23 rfl 10 136 w2.heap.size 31 i0 _ RCT.stay (by decide) Tryd.underlying23 hi0 hz0 hz1 hz2 rfl (by omega) none 0 0 [] rfl (OwR.nil _ _ _ _ _) A2 n2 c2 rfl L xs HXR.out HXF.out HLN.out HX1.out ?_ ?_ ?_ ?_; (focus (unfold maxLen; omega)); (focus omega); (focus exact Nat.le_refl _); intro A3 c3 w3 ho3 hg3; rw [Nat.zero_add, List.nil_append] at ho3; rw [Nat.zero_add]))
  have hb3 : Below w.heap.size w w3 := hb2.trans (hg3.b.mono hb2.size)
  have hb23 := hg3.b
  have h0L : 0 < L.length := by have := HL.out; omega
  obtain ⟨gb, Ah, nh, ch, rfl, hgb0, hgb1, kf, kc, hrd, hty⟩ := OwC.head ho3 h0L
  have hmc0 : MC (L.getD 0 cg0) := HMC.out _ (by rw [List.getD_eq_getElem?_getD, List.getElem?_eq_getElem h0L, Option.getD_some]; exact List.getElem_mem h0L)
  have HAL := Lib.hid (altered_any _ Ah nh ch how x w3 hrd hty (cgwf_of_cv hmc0.ok) (by have := hmc0.tx; omega) (by have := hmc0.hl; have := hrd.len; omega))
  have HOW := Lib.hid ho3
  unfold cval at HAL
  generalize L.getD 0 cg0 = a0 at *
  have k0 := kc 0 _ rfl
  have k1 := kc 1 _ rfl
  have k2 := kc 2 _ rfl
  have k3 := kc 3 _ rfl
  have k4 := kc 4 _ rfl
  have k5 := kc 5 _ rfl
  have k6 := kc 6 _ rfl
  have k7 := kc 7 _ rfl
  have k8 := kc 8 _ rfl
  have k9 := kc 9 _ rfl
  have hn0 : 0 < n2 := by omega
  clear kc hrd hty hmc0 ho3 hg3
  go_wp2_with fail
  go_at_call 12
  refine HAL.out.mono ?_
  rintro e w4 ⟨C, A4, n4, c4, rfl, hrd4, hty4, hwf4, hb4, -⟩
  have kf4 : ∀ i, w4.frozen? ⟨gb, i, none⟩ = false := fun i => (hb4.frozen (p := ⟨gb, i, none⟩) hgb1).trans (kf i)
  have l0 := (hb4.cell (p := ⟨gb, 0, none⟩) hgb1).trans k0
  have l1 := (hb4.cell (p := ⟨gb, 1, none⟩) hgb1).trans k1
  have l2 := (hb4.cell (p := ⟨gb, 2, none⟩) hgb1).trans k2
  have l3 := (hb4.cell (p := ⟨gb, 3, none⟩) hgb1).trans k3
  have l4 := (hb4.cell (p := ⟨gb, 4, none⟩) hgb1).trans k4
  have l5 := (hb4.cell (p := ⟨gb, 5, none⟩) hgb1).trans k5
  have l6 := (hb4.cell (p := ⟨gb, 6, none⟩) hgb1).trans k6
  have l7 := (hb4.cell (p := ⟨gb, 7, none⟩) hgb1).trans k7
  have l8 := (hb4.cell (p := ⟨gb, 8, none⟩) hgb1).trans k8
  have l9 := (hb4.cell (p := ⟨gb, 9, none⟩) hgb1).trans k9
  have hb24 := below_call hb23 hb4
  have hb04 := below_call hb3 hb4
  have HB25 := Lib.hid (below_ten hb24 hgb0 (.int .i64 C.kd) (.string C.us) (.string C.nt) (.int .i64 C.ts) (.string C.tn) (.int .i64 C.os) (.string C.on) (.string C.tx) (.int .i64 C.n) (.slice A4 n4 c4))
  have HB05 := Lib.hid (below_ten hb04 (Nat.le_trans hb2.size hgb0) (.int .i64 C.kd) (.string C.us) (.string C.nt) (.int .i64 C.ts) (.string C.tn) (.int .i64 C.os) (.string C.on) (.string C.tx) (.int .i64 C.n) (.slice A4 n4 c4))
  have HWM : Hid (∀ a ∈ L.set 0 C, CgWf a) := Lib.hid (fun a ha => by
    rcases List.mem_or_eq_of_mem_set ha with h | h
    · exact cgwf_of_cv (HMC.out a h).ok
    · rw [h]; exact hwf4)
  have HOT := Lib.hid (OwC.ten (HOW.out.call RCT.stay hb4) h0L C hrd4 hty4)
  clear HAL kf k0 k1 k2 k3 k4 k5 k6 k7 k8 k9
  unfold cval
  go_upto_region 4 with fail
  clear kf4 l0 l1 l2 l3 l4 l5 l6 l7 l8 l9 hrd4 hty4 hwf4 hb23 hb24 hb04 hb4 hb3 hgb1 HOW HXR HXF HX1
  generalize ((((((((((w4.setCell ⟨gb, 0, none⟩ (.int .i64 C.kd)).setCell ⟨gb, 1, none⟩ (.string C.us)).setCell ⟨gb, 2, none⟩ (.string C.nt)).setCell ⟨gb, 3, none⟩ (.int .i64 C.ts)).setCell ⟨gb, 4, none⟩ (.string C.tn)).setCell ⟨gb, 5, none⟩ (.int .i64 C.os)).setCell ⟨gb, 6, none⟩ (.string C.on)).setCell ⟨gb, 7, none⟩ (.string C.tx)).setCell ⟨gb, 8, none⟩ (.int .i64 C.n)).setCell ⟨gb, 9, none⟩ (.slice A4 n4 c4)) = w5 at *
  have HOM := Lib.hid (OwC.rd HOT.out)
  have HO5 := Lib.hid (RdC.below HO.out HB25.out)
  generalize L.set 0 C = M at *
  have HF := Lib.hid (from_sg B m d ms w5 w5 (HRM.out _ HB05.out) (Below.refl _ _))
  clear HOT HO HB25 HRM
  go_wp2_with fail
  go_at_call 11
  refine HF.out.mono ?_
  rintro e w6 ⟨g2, rfl, hS6, hb6⟩
  go_wp2_with fail
  go_at_call 10
  refine (changes_mk w5 g2 B m d ms 0 w6 hS6 (by omega)).mono ?_
  rintro e w7 ⟨A7, n7, c7, N, rfl, ho7, hmc7, hl71, hl72, hS7, hg7⟩
  have hb57 := hS7.b
  have hb07 := below_call HB05.out hb57
  have HE7 : Hid (ecE N = 0) := Lib.hid (MC.list hmc7 hl71 (by omega))
  have HOA := Lib.hid (RdC.below HO5.out hb57)
  have HOB := Lib.hid (RdC.below HOM.out hb57)
  have HOC := Lib.hid (OwC.rd ho7)
  have HWA := Lib.hid (fun a ha => cgwf_of_cv (HMC.out a ha).ok)
  have HWC := Lib.hid (fun a ha => cgwf_of_cv (hmc7 a ha).ok)
  have HE1 := Lib.hid (encode_any A2 n2 c2 L xm w7 HOA.out HWA.out (HX.out _ hb07))
  unfold REnc at HE1
  rw [HE.out, ecB_yes HE.out] at HE1
  clear HF hS6 hb6 ho7 hmc7 hl71 hl72 hS7 hg7 hb57 HO5 HOM
  go_wp2_with fail
  go_at_call 13
  refine HE1.out.mono ?_
  rintro e w8 ⟨A8, n8, c8, rfl, ho8, hb8⟩
  have hb08 := below_call hb07 hb8
  have HE2 := Lib.hid (encode_any _ n2 c3 M xm w8 (RdC.below HOB.out hb8) HWM.out (HX.out _ hb08))
  unfold REnc at HE2
  have HR8 := Lib.hid ho8.rd
  clear HE1 ho8
  go_wp2_with fail
  go_at_call 13
  refine HE2.out.mono ?_
  rintro e w9 ⟨A9, n9, c9, rfl, ho9, hb9⟩
  have hb09 := below_call hb08 hb9
  have hb79 := below_call hb8 hb9
  have HE3 := Lib.hid (encode_any A7 n7 c7 N xm w9 (RdC.below HOC.out hb79) HWC.out (HX.out _ hb09))
  unfold REnc at HE3
  rw [HE7.out, ecB_yes HE7.out] at HE3
  have HR9 := Lib.hid ho9.rd
  clear HE2 ho9
  go_wp2_with fail
  go_at_call 13
  refine HE3.out.mono ?_
  rintro e wa ⟨Aa, na, ca, rfl, hoa, hba⟩
  have hb0a := below_call hb09 hba
  have HRa := Lib.hid hoa.rd
  have hb8a := below_call hb9 hba
  have hb7a := below_call hb79 hba
  clear HE3 hoa hb79
  go_wp2_with fail
  go_at_call 14
  refine (HA.out _ hb0a).mono ?_
  rintro e wb ⟨rfl, hbb⟩
  have hb0b := below_call hb0a hbb
  have hb8b := below_call hb8a hbb
  have hb9b := below_call hba hbb
  have hb7b := below_call hb7a hbb
  have HS1 : Hid (∀ W, Below wb.heap.size wb W → Calls Tryd.prog 15 #[.slice A8 n8 c8, .slice Aa na ca] W fun e w' => e = .returned (.bool (decide (L = N))) ∧ Below W.heap.size W w') := Lib.hid fun W hW => by
    have := same_bytes A8 n8 c8 (encL L) Aa na ca (encL N) W (HR8.out.below (below_call hb8b hW)) (HRa.out.below (below_call hbb hW))
    rw [enc_same HE.out HE7.out] at this
    exact this
  have HS2 : Hid (∀ W, Below wb.heap.size wb W → Calls Tryd.prog 16 #[.slice A2 n2 c2, .slice A7 n7 c7] W fun e w' => e = .returned (.bool (decide (L = N))) ∧ Below W.heap.size W w') := Lib.hid fun W hW => samechanges_any A2 n2 c2 L A7 n7 c7 N W (RdC.below HOA.out (below_call hb7b hW)) (RdC.below HOC.out (below_call hb7b hW))
  by_cases hM : ecE M = 0
  · have HS3 := Lib.hid (same_bytes A8 n8 c8 (encL L) A9 n9 c9 _ wb (HR8.out.below hb8b) (HR9.out.below hb9b))
    rw [ecB_yes hM, enc_same HE.out hM] at HS3
    have HS4 := Lib.hid (fun W (hW : Below wb.heap.size wb W) => samechanges_any A2 n2 c2 L _ n2 c3 M W (RdC.below HOA.out (below_call hb7b hW)) (RdC.below HOB.out (below_call hb7b hW)))
    rw [hM]
    generalize decide (L = M) = b1 at *
    generalize decide (L = N) = b2 at *
    clear hb8 hb9 hba hb07 hb08 hb09 hb0a hb8a hb7a hb8b hb9b hb7b hbb
    go_wp2_with fail
    go_at_call 15
    refine HS3.out.mono ?_
    rintro e wc ⟨rfl, hbc⟩
    have hb0c := below_call hb0b hbc
    go_wp2_with fail
    go_at_call 16
    refine (HS4.out _ hbc).mono ?_
    rintro e wd ⟨rfl, hbd⟩
    have hb0d := below_call hb0c hbd
    have hbbd := below_call hbc hbd
    go_wp2_with fail
    go_at_call 15
    refine (HS1.out _ hbbd).mono ?_
    rintro e we ⟨rfl, hbe⟩
    have hb0e := below_call hb0d hbe
    have hbbe := below_call hbbd hbe
    go_wp2_with fail
    go_at_call 16
    refine (HS2.out _ hbbe).mono ?_
    rintro e wf ⟨rfl, hbf⟩
    have hb0f := below_call hb0e hbf
    go_wp2_with fail
    go_ret
    exact ⟨rfl, hb0f⟩
  · generalize ecE M = V at *
    have hV : (V == 0) = false := by simpa using hM
    generalize decide (L = N) = b2 at *
    clear hb8 hb9 hba hb07 hb08 hb09 hb0a hb8a hb7a hb8b hb9b hb7b hbb
    go_wp2_with fail
    go_at_call 15
    refine (HS1.out _ (Below.refl _ _)).mono ?_
    rintro e we ⟨rfl, hbe⟩
    have hb0e := below_call hb0b hbe
    go_wp2_with fail
    go_at_call 16
    refine (HS2.out _ hbe).mono ?_
    rintro e wf ⟨rfl, hbf⟩
    have hb0f := below_call hb0e hbf
    go_wp2_with fail
    go_ret
    exact ⟨rfl, hb0f⟩
end Go.Proofs.YtbeijpajodgpeaaDoor
