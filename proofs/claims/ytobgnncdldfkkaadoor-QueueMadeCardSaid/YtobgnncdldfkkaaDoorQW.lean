/- The walk of made. -/
import Derived.Test.YtobgnncdldfkkaaDoorQU
import Derived.Test.YtobgnncdldfkkaaDoorQO
namespace Go.Proofs.YtobgnncdldfkkaaDoor
open Go.RowKit
set_option linter.unusedSimpArgs false
set_option linter.unusedVariables false

theorem tk_keeps {W T : List Jb} (P : Jb → Prop) (hW : ∀ j ∈ W, P j) (hT : ∀ j ∈ T, P j) : (∀ j ∈ tkW W T, P j) ∧ ∀ j ∈ tkT W T, P j := by
  cases h : tkAt W T with
  | none =>
    obtain ⟨h1, h2, _⟩ := tk_none h
    rw [h1, h2]
    exact ⟨hW, hT⟩
  | some i =>
    obtain ⟨h1, h2, _⟩ := tk_some h
    have hi := tkAt_lt h
    rw [h1, h2]
    refine ⟨fun j hj => hW j (List.mem_of_mem_eraseIdx hj), fun j hj => ?_⟩
    rcases List.mem_append.1 hj with h3 | h3
    · exact hT j h3
    · simp only [List.mem_singleton] at h3
      rw [h3]
      simp only [List.getD, List.getElem?_eq_getElem hi, Option.getD_some]
      exact hW _ (List.getElem_mem hi)
theorem tk_nodup {W T : List Jb} (h : W.Nodup) : (tkW W T).Nodup := by
  cases hh : tkAt W T with
  | none => rw [(tk_none hh).1]; exact h
  | some i => rw [(tk_some hh).1]; exact h.sublist (List.eraseIdx_sublist _ _)
theorem add_keeps {W : List Jb} {j : Jb} (P : Jb → Prop) (hW : ∀ a ∈ W, P a) (hj : P j) : ∀ a ∈ addL W j, P a := by
  intro a ha
  unfold addL at ha
  split at ha
  · exact hW a ha
  · rcases List.mem_append.1 ha with h | h
    · exact hW a h
    · simp only [List.mem_singleton] at h
      rw [h]; exact hj
theorem add_nodup {W : List Jb} {j : Jb} (h : W.Nodup) : (addL W j).Nodup := by
  unfold addL
  split
  · exact h
  · rename_i hn
    rw [List.nodup_append]
    refine ⟨h, by simp, fun a ha b hb => ?_⟩
    simp only [List.mem_singleton] at hb
    subst hb
    intro e
    exact hn (e ▸ ha)
theorem done_keeps {T : List Jb} {j : Jb} (P : Jb → Prop) (hT : ∀ a ∈ T, P a) : ∀ a ∈ doneL T j, P a := by
  intro a ha
  unfold doneL at ha
  split at ha
  · exact hT a (List.mem_of_mem_eraseIdx ha)
  · exact hT a ha
theorem RdJ.grownS {w w' : World} {A As : Option Addr} {n c ns cs g : Nat} {L : List Jb} (h : RdR RJ 4 w A n c L) (hs : SrcAt w g As ns cs) (hg : w.grownBy w' (some g)) : RdR RJ 4 w' A n c L := by
  refine RdJ.kept h hg.size fun b off e h0 => ?_
  obtain ⟨b', off', e', hb, hc⟩ := RdJ.opened h h0
  rw [e] at e'
  injection e' with e'
  injection e' with e1 e2
  subst e1 e2
  refine hg.block b hb (fun eg => ?_)
  injection eg with eg
  subst eg
  obtain ⟨k, seed, _, hh⟩ := hs
  obtain ⟨h1, h2, _⟩ := hc 0 h0
  rw [cell_of_row _ _ _ _ _ _ hh] at h1 h2
  rcases off with _ | _ | _ | off <;> simp at h1 h2
theorem srcAt_setX {w : World} {g gq : Nat} {A : Option Addr} {n c : Nat} (h : SrcAt w g A n c) (hne : g ≠ gq) (i : Nat) (u : Value) : SrcAt (w.setCell ⟨gq, i, none⟩ u) g A n c := by
  obtain ⟨k, seed, h3, hh⟩ := h
  exact ⟨k, seed, h3, (heap_set_far _ _ _ _ _ hne).trans hh⟩
/-- the state of made's loop -/
def MS (w0 W : World) (g gq gr : Nat) (A : Option Addr) (n c k : Nat) : Prop := ∃ (L M : List Jb) (A1 : Option Addr) (n1 c1 : Nat) (B1 : Option Addr) (m1 d1 : Nat), Below w0.heap.size w0 W ∧ SrcAt W g A n c ∧ W.heap[gq]? = some (.cells #[.slice A1 n1 c1, .slice B1 m1 d1] 24 (0, 0)) ∧ W.heap[gr]? = some (.cells #[.slice none 0 0, .slice none 0 0] 24 (0, 0)) ∧ RdR RJ 4 W A1 n1 c1 L ∧ RdR RJ 4 W B1 m1 d1 M ∧ Hid ((∀ j ∈ L, MJ j) ∧ (∀ j ∈ M, MJ j) ∧ L.Nodup) ∧ L.length + k ≤ 11 ∧ M.length + k ≤ 11
/-- a made queue -/
def RMade (w : World) (e : Ending) (w' : World) : Prop := ∃ (L M : List Jb) (A : Option Addr) (n c : Nat) (B : Option Addr) (m d : Nat), e = .returned (.agg #[.slice A n c, .slice B m d]) ∧ RdR RJ 4 w' A n c L ∧ RdR RJ 4 w' B m d M ∧ (∀ j ∈ L, MJ j) ∧ (∀ j ∈ M, MJ j) ∧ L.Nodup ∧ L.length ≤ 11 ∧ M.length ≤ 11 ∧ Below w.heap.size w w'

set_option maxRecDepth 100000 in
set_option maxHeartbeats 8000000 in
theorem made_any (A : Option Addr) (n c : Nat) (zs : List Int) (w : World) (hr : RdN w A n c zs) :
    Calls Tryd.prog 15 #[.slice A n c] w (RMade w) := by
  have HFR : Hid (∀ W, Below w.heap.size w W → Calls Tryd.prog 14 #[.slice A n c] W (RFrom W A n c)) := Lib.hid fun W hW => from_any A n c zs W ⟨hr.len, hr.cap, hr.max, (hr.reads.below hW).more hW.size⟩
  have HN : Hid (∀ (g : Nat) (M : Int) (W : World), 0 < M → M ≤ 100 → w.heap.size ≤ g → Below w.heap.size w W → SrcAt W g A n c → Calls Tryd.prog 26 #[.pointer (some ⟨g, 0, none⟩), .int .i64 M] W (RNext W g A n c M)) := Lib.hid fun g M W h1 h2 hg hW hs => next_any w g A n c zs M W hr hW hg hs h1 (by omega)
  have HJ : Hid (∀ (g : Nat) (W : World), w.heap.size ≤ g → Below w.heap.size w W → SrcAt W g A n c → Calls Tryd.prog 13 #[.pointer (some ⟨g, 0, none⟩)] W (RJob W g A n c)) := Lib.hid fun g W hg hW hs => job_any w g A n c zs W hr hW hg hs
  clear hr
  go_enter Tryd.func15, Tryd.ntmps15
  go_wp2_with fail
  go_at_call 14
  refine (HFR.out _ (by (refine bel_out ?_; (focus (repeat' first | (with_reducible refine bel_refl ?_) | with_reducible assumption | with_reducible refine bel_drew ?_ | with_reducible refine bel_drewN _ ?_ | with_reducible refine bel_alloc _ ?_ | with_reducible refine bel_set ?_ _ ?_ | (with_reducible apply bel_call; with_reducible assumption) | (with_reducible apply bel_owg; with_reducible assumption; (focus omega)) | with_reducible exact Nat.le_refl _ | omega | (simp; done) | (simp; omega)))))).mono ?_
  rintro e w1 ⟨v, rfl, ⟨g, rfl, hg, hs1⟩, hb1⟩
  obtain ⟨kc1, kf1, kz1, kh1⟩ := blk_cells hb1 (g := w.heap.size) (t := 24) (cs := #[.slice none 0 0, .slice none 0 0]) (by (focus (repeat' first | with_reducible assumption | (with_reducible refine heap_drew ?_) | (with_reducible refine heap_drewN ?_) | (with_reducible refine heap_new ?_; focus (first | rfl | omega | (simp; done))) | (with_reducible refine heap_old ?_) | (with_reducible apply heap_near') | ((with_reducible show Array.setIfInBounds _ _ _ = _); rfl) | (with_reducible refine heap_far ?_ ?_; focus (first | omega | (simp; omega) | (simp; done))) | (with_reducible apply heap_grown; with_reducible assumption; (focus (first | omega | (simp; omega)))) | (with_reducible apply heap_call; with_reducible assumption))))
  have hb01 : Below w.heap.size w w1 := by (refine bel_out ?_; (focus (repeat' first | (with_reducible refine bel_refl ?_) | with_reducible assumption | with_reducible refine bel_drew ?_ | with_reducible refine bel_drewN _ ?_ | with_reducible refine bel_alloc _ ?_ | with_reducible refine bel_set ?_ _ ?_ | (with_reducible apply bel_call; with_reducible assumption) | (with_reducible apply bel_owg; with_reducible assumption; (focus omega)) | with_reducible exact Nat.le_refl _ | omega | (simp; done) | (simp; omega))))
  have hgw : w.heap.size + 1 ≤ g := by simpa using hg
  have hgl := srcAt_lt hs1
  clear hb1 hg kc1 kf1
  go_wp2_with fail
  have hb1a : Below w1.heap.size w1 (w1.alloc (.cells #[.slice none 0 0, .slice none 0 0] 24)) := (Below.refl _ _).alloc (Nat.le_refl _) _
  have kq : (w1.alloc (.cells #[.slice none 0 0, .slice none 0 0] 24)).heap[w1.heap.size]? = some (.cells #[.slice none 0 0, .slice none 0 0] 24 (0, 0)) := heap_new rfl
  have kr := heap_call hb1a kh1
  have hs1a := srcAt_below hs1 hb1a
  have hb01a := below_call hb01 hb1a
  generalize w1.alloc (.cells #[.slice none 0 0, .slice none 0 0] 24) = w2 at kq kr hs1a hb01a ⊢
  generalize w1.heap.size = gq at kq hgl kz1 ⊢
  clear hb1a hs1 hb01 kh1
  go_at_call 26
  refine (HN.out _ _ _ (by omega) (by omega) (by omega) hb01a hs1a).mono ?_
  rintro e w3 ⟨q3, rfl, q3a, q3b, hs3, hg3⟩
  have kq3 := heap_grown hg3 (by omega) kq
  have kr3 := heap_grown hg3 (by omega) kr
  have hb03 := below_grown hb01a hb01a.size hg3 (by omega)
  obtain ⟨k3, rfl⟩ := Int.eq_ofNat_of_zero_le q3a
  have HS0 : Hid (MS w w3 g gq w.heap.size A n c k3) := Lib.hid ⟨[], [], none, 0, 0, none, 0, 0, hb03, hs3, kq3, kr3, RdR.nil _ _ _, RdR.nil _ _ _, Lib.hid ⟨by simp, by simp, List.nodup_nil⟩, by simp; omega, by simp; omega⟩
  clear kq kr hs1a hb01a hs3 hg3 kq3 kr3 hb03
  go_wp2_with fail
  go_loopw [5] (fun v wr => ∃ k : Nat, v = .int .i64 k ∧ MS w wr g gq w.heap.size A n c k) (fun v _ => (intOf v).toNat)
  case atStart => exact ⟨k3, rfl, HS0.out⟩
  case round =>
    obtain ⟨k, rfl, L, M, A1, n1, c1, B1, m1, d1, hb, hs, hq, hrb, hrL, hrM, HP, hl1, hl2⟩ := hrel
    have hbz := hb.size
    have hgs := srcAt_lt hs
    have hn1 : n1 ≤ 11 := by have := hrL.len; omega
    have hm1 : m1 ≤ 11 := by have := hrM.len; omega
    cases k with
    | zero =>
      have kcq := Blk.cell hq
      have kcr := Blk.cell hrb
      have kfr := Blk.frozen hrb
      have hne : gq ≠ w.heap.size := by omega
      go_wp2_with fail
      have hbf : Below w.heap.size w ((wr.setCell ⟨w.heap.size, 0, none⟩ (.slice A1 n1 c1)).setCell ⟨w.heap.size, 1, none⟩ (.slice B1 m1 d1)) := (hb.setCell (Nat.le_refl _) _).setCell (Nat.le_refl _) _
      refine bodyPost_ret (v := .agg #[.slice A1 n1 c1, .slice B1 m1 d1]) ?_ rfl ⟨L, M, A1, n1, c1, B1, m1, d1, rfl, RdJ.setQ (RdJ.setQ hrL hrb _ _) (heap_set_near _ _ _ _ _ _ hrb) _ _, RdJ.setQ (RdJ.setQ hrM hrb _ _) (heap_set_near _ _ _ _ _ _ hrb) _ _, HP.out.1, HP.out.2.1, HP.out.2.2, by omega, by omega, hbf⟩
      simp [results, Tryd.results15, go_sem, kcr]
    | succ k =>
      go_wp2_with fail
      go_at_call 26
      refine (HN.out _ _ _ (by omega) (by omega) (by omega) hb hs).mono ?_
      rintro e w5 ⟨q5, rfl, q5a, q5b, hs5, hg5⟩
      have kq5 := heap_grown hg5 (by omega) hq
      have kr5 := heap_grown hg5 (by omega) hrb
      have hb5 := below_grown hb hbz hg5 (by omega)
      have hL5 := RdJ.grownS hrL hs hg5
      have hM5 := RdJ.grownS hrM hs hg5
      clear hq hrb hb hrL hrM hs hg5
      by_cases h0 : q5 = 0
      · subst h0
        have kcq := Blk.cell kq5
        go_wp2_with fail
        go_at_call 28
        refine (rtake_any A1 n1 c1 L B1 m1 d1 M w5 hL5 hM5 (by omega) (by omega)).mono ?_
        rintro e w6 ⟨A6, n6, c6, B6, m6, d6, rfl, hL6, hM6, hb6⟩
        have kq6 := heap_call hb6 kq5
        have kr6 := heap_call hb6 kr5
        have hs6 := srcAt_below hs5 hb6
        have hb06 := below_call hb5 hb6
        have kc6 := Blk.cell kq6
        have kf6 := Blk.frozen kq6
        have hlW := tkW_length L M
        have hlT := tkT_length L M
        have hkp := tk_keeps MJ HP.out.1 HP.out.2.1
        have HPn : Hid ((∀ j ∈ tkW L M, MJ j) ∧ (∀ j ∈ tkT L M, MJ j) ∧ (tkW L M).Nodup) := Lib.hid ⟨hkp.1, hkp.2, tk_nodup HP.out.2.2⟩
        clear hkp kq5 kr5 hs5 hb5 hb6 hL5 hM5
        go_wp2_with fail
        go_roundw
        case rel => exact ⟨k, by go_num, tkW L M, tkT L M, A6, n6, c6, B6, m6, d6, (hb06.setCell (by show w.heap.size ≤ gq; omega) _).setCell (by show w.heap.size ≤ gq; omega) _, srcAt_setX (srcAt_setX hs6 (by omega) _ _) (by omega) _ _, heap_set_near _ _ _ _ _ _ (heap_set_near _ _ _ _ _ _ kq6), (heap_set_far _ _ _ _ _ (by omega)).trans ((heap_set_far _ _ _ _ _ (by omega)).trans kr6), RdJ.setQ (RdJ.setQ hL6 kq6 _ _) (heap_set_near _ _ _ _ _ _ kq6) _ _, RdJ.setQ (RdJ.setQ hM6 kq6 _ _) (heap_set_near _ _ _ _ _ _ kq6) _ _, HPn, by omega, by omega⟩
        case measure => simp [intOf]
      · have h1 : (q5 == 0) = false := by simpa using h0
        have kc5 := Blk.cell kq5
        go_wp2_with fail
        go_region_with (first
          | (go_at_call 13; ((with_reducible refine (HJ.out g _ ?_ ?_ ?_).mono ?_); (focus omega); (focus (refine below_call hb5 ?_; exact bel_out (bel_drew (bel_refl (Nat.le_refl _))))); (focus (exact hs5)); rintro e w6 ⟨j, hj, rfl, hs6, hg6⟩; (have hg6' : w5.grownBy w6 (some g) := ⟨hg6.os, hg6.tape, hg6.output, hg6.size, hg6.block⟩); (have kq6 := heap_grown hg6' (by omega) kq5); (have kr6 := heap_grown hg6' (by omega) kr5); (have hb6 := below_grown hb5 hb5.size hg6' (by omega)); (have hL6 := RdJ.grownS hL5 hs5 hg6'); (have hM6 := RdJ.grownS hM5 hs5 hg6'); (have kc6 := Blk.cell kq6)))
          | (go_at_call 27; ((with_reducible refine (radd_any A1 n1 c1 L B1 m1 d1 M j w6 hL6 hM6 ?_ ?_).mono ?_); (focus omega); (focus omega); rintro e w7 ⟨A7, n7, c7, B7, m7, d7, rfl, hL7, hM7, hb7⟩; (have kq7 := heap_call hb7 kq6); (have kr7 := heap_call hb7 kr6); (have hs7 := srcAt_below hs6 hb7); (have hb07 := below_call hb6 hb7); (have kc7 := Blk.cell kq7); (have kf7 := Blk.frozen kq7))))
        all_goals
          have hlA := addL_length L j
          have HPn : Hid ((∀ a ∈ addL L j, MJ a) ∧ (∀ j ∈ M, MJ j) ∧ (addL L j).Nodup) := Lib.hid ⟨add_keeps MJ HP.out.1 hj, HP.out.2.1, add_nodup HP.out.2.2⟩
          clear kq5 kr5 hs5 hb5 hL5 hM5 kc5 hg6 hg6' kq6 kr6 hb6 hL6 hM6 kc6 hs6 hb7
          go_wp2
          go_roundw
          case rel => exact ⟨k, by go_num, addL L j, M, A7, n7, c7, B7, m7, d7, (hb07.setCell (by show w.heap.size ≤ gq; omega) _).setCell (by show w.heap.size ≤ gq; omega) _, srcAt_setX (srcAt_setX hs7 (by omega) _ _) (by omega) _ _, heap_set_near _ _ _ _ _ _ (heap_set_near _ _ _ _ _ _ kq7), (heap_set_far _ _ _ _ _ (by omega)).trans ((heap_set_far _ _ _ _ _ (by omega)).trans kr7), RdJ.setQ (RdJ.setQ hL7 kq7 _ _) (heap_set_near _ _ _ _ _ _ kq7) _ _, RdJ.setQ (RdJ.setQ hM7 kq7 _ _) (heap_set_near _ _ _ _ _ _ kq7) _ _, HPn, by omega, by omega⟩
          case measure => simp [intOf]
end Go.Proofs.YtobgnncdldfkkaaDoor
