/- The walk of QueueStages. -/
import Derived.Test.YtobgnncdldfkkaaDoorQW
import Derived.Test.YtobgnncdldfkkaaDoorQY
namespace Go.Proofs.YtobgnncdldfkkaaDoor
open Go.RowKit
set_option linter.unusedSimpArgs false
set_option linter.unusedVariables false

def s1 (a : Jb) : Bool := a.st == 1
theorem MJ.je {j : Jb} (h : MJ j) : je j = s1 j := by
  unfold Go.Proofs.YtobgnncdldfkkaaDoor.je s1
  rcases h.stage with h | h <;> rw [h] <;> rfl
theorem any_je {L : List Jb} (h : ∀ j ∈ L, MJ j) : L.any (fun a => je a) = L.any s1 := by
  induction L with
  | nil => rfl
  | cons x r ih =>
    rw [List.any_cons, List.any_cons, ih (fun j hj => h j (List.mem_cons_of_mem _ hj)), (h x List.mem_cons_self).je]
theorem take_anyP (L : List Jb) (P : Jb → Bool) {k : Nat} (hk : k < L.length) : (L.take (k + 1)).any P = ((L.take k).any P || P (L.getD k jb0)) := by
  rw [List.take_add_one, List.getElem?_eq_getElem hk, List.any_append]
  simp [List.getD, List.getElem?_eq_getElem hk]
theorem stages_law {L M : List Jb} (hL : ∀ j ∈ L, MJ j) (hM : ∀ j ∈ M, MJ j) :
    (((L.any s1 || M.any s1) && tkOk L M && ((tkJ L M).st == 2)) = false) ∧ ((L.any s1 && !tkOk L M) = false) ∧ (((L.any s1 || M.any s1) || (tkOk L M == decide (0 < L.length))) = true) := by
  have a1 := any_je hL
  have a2 := any_je hM
  rw [← a1, ← a2]
  rcases fIdx_range (fun a => je a) L with ⟨h1, h2⟩ | ⟨i, h1, h2, h3, _⟩
  · have he : eIdx L = -1 := h1
    rw [h2]
    by_cases hp : L = [] ∨ M.any (fun a => je a) = true
    · have ht : tkAt L M = none := by unfold tkAt; rw [he, if_neg (by decide), if_pos hp]
      obtain ⟨_, _, t3, t4⟩ := tk_none ht
      rw [t3, t4]
      refine ⟨by simp, by simp, ?_⟩
      rcases hp with hp | hp
      · subst hp; simp
      · rw [hp]; rfl
    · have ht : tkAt L M = some 0 := by unfold tkAt; rw [he, if_neg (by decide), if_neg hp]
      obtain ⟨_, _, t3, t4⟩ := tk_some ht
      have hm : M.any (fun a => je a) = false := by
        cases hh : M.any (fun a => je a) with
        | true => exact absurd (.inr hh) hp
        | false => rfl
      have hl : 0 < L.length := List.length_pos_iff.2 (fun e => hp (.inl e))
      rw [t4, hm]
      exact ⟨by simp, by simp, by simp [hl]⟩
  · have he : eIdx L = i := h1
    have ht : tkAt L M = some i := by
      unfold tkAt
      rw [he, if_pos (by omega)]
      rfl
    obtain ⟨_, _, t3, t4⟩ := tk_some ht
    have hst : ((L.getD i jb0).st == 2) = false := by
      unfold Go.Proofs.YtobgnncdldfkkaaDoor.je at h3
      simpa using h3
    have hany : L.any (fun a => je a) = true := by
      rw [List.any_eq_true]
      refine ⟨L.getD i jb0, ?_, h3⟩
      simp only [List.getD, List.getElem?_eq_getElem h2, Option.getD_some]
      exact List.getElem_mem h2
    rw [t3, t4, hst, hany]
    exact ⟨by simp, by simp, by simp⟩

set_option maxRecDepth 100000 in
set_option maxHeartbeats 16000000 in
theorem queuestages_walk (A2 : Option Addr) (n2 c2 : Nat) (zs : List Int) (x : Int) (w : World) (hr : RdN w A2 n2 c2 zs) (hx : Hm x w) :
    Calls Tryd.prog 6 #[.slice A2 n2 c2] w fun e w' => e = .returned (.bool true) ∧ Below w.heap.size w w' := by
  have HAW := Lib.hid fun (W : World) (hW : Below w.heap.size w W) => awake_any x W (hx.below hW)
  have HX := Lib.hid fun (W : World) (hW : Below w.heap.size w W) => hx.below hW
  have HM := Lib.hid (made_any A2 n2 c2 zs w hr)
  clear hr hx
  go_enter Tryd.func6, Tryd.ntmps6
  go_wp2_with fail
  go_at_call 15
  refine HM.out.mono ?_
  rintro e w1 ⟨L, M, A, n, c, B, m, d, rfl, hL1, hM1, hLj, hMj, hnd, hl1, hl2, hb1⟩
  have hn : n ≤ 11 := by have := hL1.len; omega
  have hm : m ≤ 11 := by have := hM1.len; omega
  have HNL := Lib.hid hL1.len
  have HNM := Lib.hid hM1.len
  have HLW := Lib.hid (stages_law hLj hMj)
  have hal : Below w1.heap.size w1 (w1.alloc (.cells #[.slice A n c, .slice B m d] 24)) := (Below.refl _ _).alloc (Nat.le_refl _) _
  have k3 : (w1.alloc (.cells #[.slice A n c, .slice B m d] 24)).heap[w1.heap.size]? = some (.cells #[.slice A n c, .slice B m d] 24 (0, 0)) := heap_new rfl
  have HO1 := Lib.hid fun (h : 0 < n) => RdJ.opened (RdJ.below hL1 hal) h
  have HO2 := Lib.hid fun (h : 0 < m) => RdJ.opened (RdJ.below hM1 hal) h
  have HT := Lib.hid (take_any A n c L B m d M x _ (RdJ.below hL1 hal) (RdJ.below hM1 hal) (HX.out _ (below_call hb1 hal)) (by omega) (by omega))
  have hb2 := below_call hb1 hal
  go_wp2_with fail
  generalize w1.alloc (.cells #[.slice A n c, .slice B m d] 24) = w2 at k3 HO1 HO2 HT hb2 ⊢
  generalize w1.heap.size = g3 at k3 ⊢
  clear hal hL1 hM1 hb1 HM hnd hLj hMj
  have kc := Blk.cell k3
  go_loopw [4, 5] (fun v4 v5 wx => ∃ (k : Nat) (bb : Bool), k ≤ n ∧ v4 = .bool bb ∧ v5 = .int .i64 k ∧ wx = w2 ∧ Hid (bb = (L.take k).any s1)) (fun _ v5 _ => n - (intOf v5).toNat)
  case atStart => exact ⟨0, false, Nat.zero_le _, rfl, rfl, rfl, Lib.hid (by simp)⟩
  case round =>
    obtain ⟨k, bb, hk, rfl, rfl, hwx, HB⟩ := hrel
    subst hwx
    by_cases hlt : k < n
    · obtain ⟨b, off, rfl, hb, hc⟩ := HO1.out (by omega)
      obtain ⟨c1, -, -, -⟩ := hc k hlt
      have z0 : (0 : Int) ≤ (k : Int) := by omega
      have z1 : (k : Int) < (n : Int) := by omega
      have HTA := Lib.hid (take_anyP L s1 (k := k) (by rw [← HNL.out]; exact hlt))
      clear hc HO1 HO2 HT HLW
      cases bb with
      | true =>
        have HN : Hid (true = (L.take (k + 1)).any s1) := Lib.hid (by rw [HTA.out, ← HB.out]; rfl)
        clear HTA HB c1
        go_wp2_with fail
        go_roundw
        case rel => exact ⟨k + 1, true, by omega, rfl, by go_num, by first | rfl | trivial, HN⟩
        case measure => simp [intOf]; omega
      | false =>
        have HN : Hid (s1 (L.getD k jb0) = (L.take (k + 1)).any s1) := Lib.hid (by rw [HTA.out, ← HB.out]; rfl)
        clear HTA HB
        unfold s1 at HN
        generalize (L.getD k jb0).st = st at *
        go_wp2_with fail
        go_roundw
        case rel => exact ⟨k + 1, (st == 1), by omega, rfl, by go_num, by first | rfl | trivial, HN⟩
        case measure => simp [intOf]; omega
    · obtain rfl : k = n := by omega
      have HB1 : Hid (bb = L.any s1) := Lib.hid (by rw [HB.out, HNL.out, List.take_length])
      clear HB HO1
      obtain ⟨w3, rfl⟩ : ∃ q, q = wr := ⟨_, rfl⟩
      go_wp2_with fail
      go_loopw [4, 7] (fun v4 v7 wx => ∃ (i : Nat) (bc : Bool), i ≤ m ∧ v4 = .bool bc ∧ v7 = .int .i64 i ∧ wx = w3 ∧ Hid (bc = (bb || (M.take i).any s1))) (fun _ v7 _ => m - (intOf v7).toNat)
      case atStart => exact ⟨0, bb, Nat.zero_le _, rfl, rfl, rfl, Lib.hid (by simp)⟩
      case round =>
        obtain ⟨i, bc, hi, rfl, rfl, hwx, HB⟩ := hrel
        subst hwx
        by_cases hlm : i < m
        · obtain ⟨b, off, rfl, hb, hc⟩ := HO2.out (by omega)
          obtain ⟨c1, -, -, -⟩ := hc i hlm
          have z0 : (0 : Int) ≤ (i : Int) := by omega
          have z1 : (i : Int) < (m : Int) := by omega
          have HTA := Lib.hid (take_anyP M s1 (k := i) (by rw [← HNM.out]; exact hlm))
          clear hc HO2 HT HLW
          cases bc with
          | true =>
            have HN : Hid (true = (bb || (M.take (i + 1)).any s1)) := Lib.hid (by rw [HTA.out, ← Bool.or_assoc, ← HB.out]; rfl)
            clear HTA HB c1
            go_wp2_with fail
            go_roundw
            case rel => exact ⟨i + 1, true, by omega, rfl, by go_num, by first | rfl | trivial, HN⟩
            case measure => simp [intOf]; omega
          | false =>
            have HN : Hid (s1 (M.getD i jb0) = (bb || (M.take (i + 1)).any s1)) := Lib.hid (by rw [HTA.out, ← Bool.or_assoc, ← HB.out]; rfl)
            clear HTA HB
            unfold s1 at HN
            generalize (M.getD i jb0).st = st at *
            go_wp2_with fail
            go_roundw
            case rel => exact ⟨i + 1, (st == 1), by omega, rfl, by go_num, by first | rfl | trivial, HN⟩
            case measure => simp [intOf]; omega
        · obtain rfl : i = m := by omega
          have HB2 : Hid (bc = (bb || M.any s1)) := Lib.hid (by rw [HB.out, HNM.out, List.take_length])
          obtain ⟨f1, f2, f3⟩ := HLW.out
          rw [← HB1.out, ← HB2.out] at f1 f3
          rw [← HB1.out] at f2
          rw [← HNL.out] at f3
          have HTT := HT.out
          clear HB HO2 HLW HT HB1 HB2
          generalize tkW L M = lW at *
          generalize tkT L M = lT at *
          generalize tkJ L M = lJ at *
          generalize tkOk L M = lO at *
          obtain ⟨st, us, sp, nm⟩ := lJ
          unfold RTk Jb.val at HTT
          simp only [] at HTT f1
          go_wp2_with fail
          go_at_call 18
          refine HTT.mono ?_
          rintro e w4 ⟨A4, n4, c4, B4, m4, d4, rfl, -, -, hb4⟩
          have k34 := heap_call hb4 k3
          have kc4 := Blk.cell k34
          have kl := Blk.lt k34
          have hb04 := below_call hb2 hb4
          clear HTT hb4 hb2 k3 kc
          have e0 : decide ((0 : Int) < (k : Int)) = decide (0 < k) := decide_eq_decide.2 (by omega)
          have hal : Below w4.heap.size w4 ((w4.alloc (.cells #[.slice A4 n4 c4, .slice B4 m4 d4] 24)).alloc (.cells #[.int .i64 st, .string us, .int .i64 sp, .string nm] 28)) := ((Below.refl _ _).alloc (Nat.le_refl _) _).alloc (by rw [size_alloc_]; omega) _
          have hb05 := below_call hb04 hal
          have k35 := heap_call hal k34
          have HK : Hid (∀ W, Below (((w4.alloc (.cells #[.slice A4 n4 c4, .slice B4 m4 d4] 24)).alloc (.cells #[.int .i64 st, .string us, .int .i64 sp, .string nm] 28))).heap.size ((w4.alloc (.cells #[.slice A4 n4 c4, .slice B4 m4 d4] 24)).alloc (.cells #[.int .i64 st, .string us, .int .i64 sp, .string nm] 28)) W → Below w.heap.size w W ∧ W.cell? ⟨g3, 0, none⟩ = some (.slice A k c)) := Lib.hid fun W hW => ⟨below_call hb05 hW, Blk.cell (heap_call hW k35) 0⟩
          clear hal hb05 k35 k34 hb04
          cases bc with
          | true =>
            cases lO with
            | true =>
              have hs2 : (st == 2) = false := by simpa using f1
              clear f1 f2 f3
              cases bb with
              | true =>
                go_wp2_with (go_at_call 11; go_must (refine (HAW.out _ ?_).mono ?_; (focus (exact (HK.out _ (Below.refl _ _)).1)); rintro e w6 ⟨rfl, hb6⟩; obtain ⟨hbf, kcf⟩ := HK.out _ hb6))
                go_ret
                exact ⟨by rfl, hbf⟩
              | false =>
                go_wp2_with (go_at_call 11; go_must (refine (HAW.out _ ?_).mono ?_; (focus (exact (HK.out _ (Below.refl _ _)).1)); rintro e w6 ⟨rfl, hb6⟩; obtain ⟨hbf, kcf⟩ := HK.out _ hb6))
                go_ret
                exact ⟨by rfl, hbf⟩
            | false =>
              have hbb : bb = false := by simpa using f2
              subst hbb
              clear f1 f2 f3
              go_wp2_with (go_at_call 11; go_must (refine (HAW.out _ ?_).mono ?_; (focus (exact (HK.out _ (Below.refl _ _)).1)); rintro e w6 ⟨rfl, hb6⟩; obtain ⟨hbf, kcf⟩ := HK.out _ hb6))
              go_ret
              exact ⟨by rfl, hbf⟩
          | false =>
            cases lO with
            | true =>
              have hd : decide (0 < k) = true := by simpa using f3
              have hd2 : 0 < k := of_decide_eq_true hd
              clear f1 f2 f3
              cases bb with
              | true =>
                go_wp2_with (go_at_call 11; go_must (refine (HAW.out _ ?_).mono ?_; (focus (exact (HK.out _ (Below.refl _ _)).1)); rintro e w6 ⟨rfl, hb6⟩; obtain ⟨hbf, kcf⟩ := HK.out _ hb6))
                go_ret
                exact ⟨by rfl, hbf⟩
              | false =>
                go_wp2_with (go_at_call 11; go_must (refine (HAW.out _ ?_).mono ?_; (focus (exact (HK.out _ (Below.refl _ _)).1)); rintro e w6 ⟨rfl, hb6⟩; obtain ⟨hbf, kcf⟩ := HK.out _ hb6))
                go_ret
                exact ⟨by rfl, hbf⟩
            | false =>
              have hbb : bb = false := by simpa using f2
              subst hbb
              have hd : decide (0 < k) = false := by simpa using f3
              have hd2 : k = 0 := by have := of_decide_eq_false hd; omega
              clear f1 f2 f3
              go_wp2_with (go_at_call 11; go_must (refine (HAW.out _ ?_).mono ?_; (focus (exact (HK.out _ (Below.refl _ _)).1)); rintro e w6 ⟨rfl, hb6⟩; obtain ⟨hbf, kcf⟩ := HK.out _ hb6))
              go_ret
              exact ⟨by rfl, hbf⟩
end Go.Proofs.YtobgnncdldfkkaaDoor
