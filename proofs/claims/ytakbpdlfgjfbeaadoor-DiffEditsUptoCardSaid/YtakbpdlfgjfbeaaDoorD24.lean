/- exchanged, turned. -/
import Derived.Test.YtakbpdlfgjfbeaaDoorD9
import Derived.Test.YtakbpdlfgjfbeaaDoorDP6
namespace Go.Proofs.YtakbpdlfgjfbeaaDoor
open Go.RowKit
set_option linter.unusedSimpArgs false
set_option linter.unusedVariables false

theorem OwS.of_vals {w : World} {base e n : Nat} {v : Value} {L : List ByteArray} (h : w.ownsRow base e 1 v n (L.map Value.string)) : ∃ A c, v = .slice A n c ∧ OwR RS 1 w base e A n c L := by
  obtain ⟨A, c, rfl, h1, h2⟩ := own_shape h
  refine ⟨A, c, rfl, ⟨by have := h.1; rw [List.length_map] at this; omega, h1, h2, _, h, fun k a hk => ?_⟩⟩
  show _ = [Value.string a]
  have hkl : k < L.length := by
    rcases Nat.lt_or_ge k L.length with h3 | h3
    · exact h3
    · rw [List.getElem?_eq_none h3] at hk; cases hk
  rw [Nat.mul_one, List.drop_eq_getElem_cons (by rw [List.length_map]; exact hkl)]
  rw [List.getElem?_eq_getElem hkl] at hk
  simp [Option.some.inj hk]
/-- a row of strings that is read, of strings' blocks, in new memory -/
def RNewS (w : World) (n : Nat) (L : List ByteArray) (v : Value) (w' : World) : Prop := ∃ A c, v = .slice A n c ∧ RdR RS 1 w' A n c L ∧ TyB w' 9 A ∧ Below w.heap.size w w'
theorem clone_any (A : Option Addr) (n c : Nat) (L : List ByteArray) (w : World) (h : RdR RS 1 w A n c L) (hn : n ≤ 100000) :
    Calls Tryd.prog 54 #[.slice A n c] w fun e w' => ∃ v, e = .returned v ∧ RNewS w n L v w' := by
  cases A with
  | none =>
    have h0 : n = 0 := by
      rcases Nat.eq_zero_or_pos n with h0 | h0
      · exact h0
      · obtain ⟨b, off, e, _⟩ := RdS.opened h h0
        cases e
    have hL := h.nil_none h0
    subst h0
    refine (Tryd.slices_Clone_string_nil 0 c w).mono ?_
    rintro e w' ⟨rfl, rfl⟩
    exact ⟨_, rfl, none, 0, rfl, by rw [hL]; exact RdR.nil _ _ _, (fun ad e => by cases e), Below.refl _ _⟩
  | some a =>
    rcases Nat.eq_zero_or_pos n with h0 | h0
    · have hL := h.nil_none h0
      subst h0
      refine (Tryd.slices_Clone_string_zero a c w).mono ?_
      rintro e w' ⟨v, rfl, ho, -, hb⟩
      obtain ⟨A', c', rfl, hoR⟩ := OwS.of_vals (L := []) ho
      exact ⟨_, rfl, A', c', rfl, by rw [hL]; exact hoR.rd, OwS.ty hoR, hb⟩
    · obtain ⟨b, off, e, hb, hc⟩ := RdS.opened h h0
      injection e with e
      subst e
      have hl := h.len
      refine (Tryd.slices_Clone_string b off n c L w (by omega) (by omega) (fun j hj => hc j (by omega))).mono ?_
      rintro e w' ⟨v, rfl, ho, -, hb'⟩
      rw [List.take_of_length_le (by omega)] at ho
      obtain ⟨A', c', rfl, hoR⟩ := OwS.of_vals ho
      exact ⟨_, rfl, A', c', rfl, hoR.rd, OwS.ty hoR, hb'⟩

/-- block g is a block of type t -/
def IsBlk (w : World) (g t : Nat) : Prop := ∃ cs, w.heap[g]? = some (.cells cs t (0, 0))
theorem IsBlk.set {w : World} {g t : Nat} (h : IsBlk w g t) (g' i : Nat) (u : Value) : IsBlk (w.setCell ⟨g', i, none⟩ u) g t := by
  obtain ⟨cs, h1⟩ := h
  by_cases e : g = g'
  · subst e; exact ⟨_, heap_set_near w g i t u cs h1⟩
  · exact ⟨cs, (heap_set_far w g' i g u e).trans h1⟩
/-- strings that are read, in a block of strings -/
def RdT (w : World) (A : Option Addr) (n c : Nat) (L : List ByteArray) : Prop := RdR RS 1 w A n c L ∧ TyB w 9 A
theorem RdT.set {w : World} {A : Option Addr} {n c : Nat} {L : List ByteArray} (h : RdT w A n c L) {g t : Nat} (hh : IsBlk w g t) (ht : t ≠ 9) (i : Nat) (u : Value) : RdT (w.setCell ⟨g, i, none⟩ u) A n c L := by
  obtain ⟨cs, hh⟩ := hh
  have hk : ∀ ad, A = some ad → (w.setCell ⟨g, i, none⟩ u).heap[ad.block]? = w.heap[ad.block]? := fun ad e => by
    obtain ⟨cs2, fr, h3⟩ := h.2 ad e
    refine heap_set_far _ _ _ _ _ (fun ek => ?_)
    rw [ek, hh] at h3
    injection h3 with h3
    injection h3 with _ h4
    exact ht h4
  refine ⟨RdS.kept h.1 (by simp [World.setCell]) hk, fun ad e => ?_⟩
  obtain ⟨cs2, fr, h3⟩ := h.2 ad e
  exact ⟨cs2, fr, (hk ad e).trans h3⟩
/-- an edit that does the opposite, in new memory -/
def REx (w : World) (k : Int) (n : Nat) (L : List ByteArray) (e : Ending) (w' : World) : Prop := ∃ A c, e = .returned (.agg #[.int .i64 (exK k), .slice A n c]) ∧ RdR RS 1 w' A n c L ∧ TyB w' 9 A ∧ Below w.heap.size w w'

set_option maxRecDepth 100000 in
set_option maxHeartbeats 4000000 in
theorem exch_any (k : Int) (A : Option Addr) (n c : Nat) (L : List ByteArray) (w : World) (h : RdR RS 1 w A n c L) (hn : n ≤ 100000) :
    Calls Tryd.prog 43 #[.agg #[.int .i64 k, .slice A n c]] w (REx w k n L) := by
  have HC : Hid (∀ W, Below w.heap.size w W → Calls Tryd.prog 54 #[.slice A n c] W fun e w' => ∃ v, e = .returned v ∧ RNewS W n L v w') := Lib.hid fun W hW => clone_any A n c L W (h.below RS.stay hW) hn
  clear h
  have HAL : Hid (Below w.heap.size w ((w.alloc (.cells #[.int .i64 k, .slice A n c] 32)).alloc (.cells #[.int .i64 0, .slice none 0 0] 32))) := Lib.hid (((Below.refl _ _).alloc (Nat.le_refl _) _).alloc (by rw [size_alloc_]; omega) _)
  by_cases h2 : k = 2
  · subst h2
    have HK : Hid (exK 2 = 3) := Lib.hid rfl
    go_enter Tryd.func43, Tryd.ntmps43
    go_wp2_with fail
    go_at_call 54
    refine (HC.out _ HAL.out).mono ?_
    rintro e w1 ⟨v1, rfl, A1, c1, rfl, hr1, hty1, hb1⟩
    obtain ⟨kc1, kf1, kz1, kh1⟩ := blk_cells hb1 (g := w.heap.size) (t := 32) (cs := #[.int .i64 2, .slice A n c]) (by (focus (repeat' first | with_reducible assumption | (with_reducible refine heap_drew ?_) | (with_reducible refine heap_drewN ?_) | (with_reducible refine heap_new ?_; focus (first | rfl | omega | (simp; done))) | (with_reducible refine heap_old ?_) | (with_reducible apply heap_near') | ((with_reducible show Array.setIfInBounds _ _ _ = _); rfl) | (with_reducible refine heap_far ?_ ?_; focus (first | omega | (simp; omega) | (simp; done))) | (with_reducible apply heap_grown; with_reducible assumption; (focus (first | omega | (simp; omega)))) | (with_reducible apply heap_call; with_reducible assumption))))
    obtain ⟨kc1b, kf1b, kz1b, kh1b⟩ := blk_cells hb1 (g := w.heap.size + 1) (t := 32) (cs := #[.int .i64 0, .slice none 0 0]) (by (focus (repeat' first | with_reducible assumption | (with_reducible refine heap_drew ?_) | (with_reducible refine heap_drewN ?_) | (with_reducible refine heap_new ?_; focus (first | rfl | omega | (simp; done))) | (with_reducible refine heap_old ?_) | (with_reducible apply heap_near') | ((with_reducible show Array.setIfInBounds _ _ _ = _); rfl) | (with_reducible refine heap_far ?_ ?_; focus (first | omega | (simp; omega) | (simp; done))) | (with_reducible apply heap_grown; with_reducible assumption; (focus (first | omega | (simp; omega)))) | (with_reducible apply heap_call; with_reducible assumption))))
    have hb01 : Below w.heap.size w w1 := below_call HAL.out hb1
    have kb1 : IsBlk w1 w.heap.size 32 := ⟨_, kh1⟩
    have kb2 : IsBlk w1 (w.heap.size + 1) 32 := ⟨_, kh1b⟩
    have HRD := Lib.hid (fun (u0 u1 u2 u3 : Value) => (RdT.set (RdT.set (RdT.set (RdT.set ⟨hr1, hty1⟩ kb1 (by decide) 1 u0) (kb1.set _ _ _) (by decide) 0 u1) ((kb2.set _ _ _).set _ _ _) (by decide) 0 u2) (((kb2.set _ _ _).set _ _ _).set _ _ _) (by decide) 1 u3))
    clear hb1 kz1 kz1b kh1 kh1b
    go_wp2_with fail
    refine bodyPost_ret (v := .agg #[.int .i64 3, .slice A1 n c1]) ?_ rfl ⟨A1, c1, by rw [HK.out], (HRD.out _ _ _ _).1, (HRD.out _ _ _ _).2, (((hb01.setCell (Nat.le_refl _) _).setCell (Nat.le_refl _) _).setCell (Nat.le_succ _) _).setCell (Nat.le_succ _) _⟩
    simp [results, Tryd.results43, go_sem, kc1b]
  · by_cases h3 : k = 3
    · subst h3
      have HK : Hid (exK 3 = 2) := Lib.hid rfl
      go_enter Tryd.func43, Tryd.ntmps43
      go_wp2_with fail
      go_at_call 54
      refine (HC.out _ HAL.out).mono ?_
      rintro e w1 ⟨v1, rfl, A1, c1, rfl, hr1, hty1, hb1⟩
      obtain ⟨kc1, kf1, kz1, kh1⟩ := blk_cells hb1 (g := w.heap.size) (t := 32) (cs := #[.int .i64 3, .slice A n c]) (by (focus (repeat' first | with_reducible assumption | (with_reducible refine heap_drew ?_) | (with_reducible refine heap_drewN ?_) | (with_reducible refine heap_new ?_; focus (first | rfl | omega | (simp; done))) | (with_reducible refine heap_old ?_) | (with_reducible apply heap_near') | ((with_reducible show Array.setIfInBounds _ _ _ = _); rfl) | (with_reducible refine heap_far ?_ ?_; focus (first | omega | (simp; omega) | (simp; done))) | (with_reducible apply heap_grown; with_reducible assumption; (focus (first | omega | (simp; omega)))) | (with_reducible apply heap_call; with_reducible assumption))))
      obtain ⟨kc1b, kf1b, kz1b, kh1b⟩ := blk_cells hb1 (g := w.heap.size + 1) (t := 32) (cs := #[.int .i64 0, .slice none 0 0]) (by (focus (repeat' first | with_reducible assumption | (with_reducible refine heap_drew ?_) | (with_reducible refine heap_drewN ?_) | (with_reducible refine heap_new ?_; focus (first | rfl | omega | (simp; done))) | (with_reducible refine heap_old ?_) | (with_reducible apply heap_near') | ((with_reducible show Array.setIfInBounds _ _ _ = _); rfl) | (with_reducible refine heap_far ?_ ?_; focus (first | omega | (simp; omega) | (simp; done))) | (with_reducible apply heap_grown; with_reducible assumption; (focus (first | omega | (simp; omega)))) | (with_reducible apply heap_call; with_reducible assumption))))
      have hb01 : Below w.heap.size w w1 := below_call HAL.out hb1
      have kb1 : IsBlk w1 w.heap.size 32 := ⟨_, kh1⟩
      have kb2 : IsBlk w1 (w.heap.size + 1) 32 := ⟨_, kh1b⟩
      have HRD := Lib.hid (fun (u0 u1 u2 u3 : Value) => (RdT.set (RdT.set (RdT.set (RdT.set ⟨hr1, hty1⟩ kb1 (by decide) 1 u0) (kb1.set _ _ _) (by decide) 0 u1) ((kb2.set _ _ _).set _ _ _) (by decide) 0 u2) (((kb2.set _ _ _).set _ _ _).set _ _ _) (by decide) 1 u3))
      clear hb1 kz1 kz1b kh1 kh1b
      go_wp2_with fail
      refine bodyPost_ret (v := .agg #[.int .i64 2, .slice A1 n c1]) ?_ rfl ⟨A1, c1, by rw [HK.out], (HRD.out _ _ _ _).1, (HRD.out _ _ _ _).2, (((hb01.setCell (Nat.le_refl _) _).setCell (Nat.le_refl _) _).setCell (Nat.le_succ _) _).setCell (Nat.le_succ _) _⟩
      simp [results, Tryd.results43, go_sem, kc1b]
    · have HK : Hid (exK k = k) := Lib.hid (by unfold exK; rw [if_neg h2, if_neg h3])
      have d2 : (k == 2) = false := by rw [beq_eq_false_iff_ne]; exact h2
      have d3 : (k == 3) = false := by rw [beq_eq_false_iff_ne]; exact h3
      clear h2 h3
      go_enter Tryd.func43, Tryd.ntmps43
      go_wp2_with fail
      go_at_call 54
      refine (HC.out _ HAL.out).mono ?_
      rintro e w1 ⟨v1, rfl, A1, c1, rfl, hr1, hty1, hb1⟩
      obtain ⟨kc1, kf1, kz1, kh1⟩ := blk_cells hb1 (g := w.heap.size) (t := 32) (cs := #[.int .i64 k, .slice A n c]) (by (focus (repeat' first | with_reducible assumption | (with_reducible refine heap_drew ?_) | (with_reducible refine heap_drewN ?_) | (with_reducible refine heap_new ?_; focus (first | rfl | omega | (simp; done))) | (with_reducible refine heap_old ?_) | (with_reducible apply heap_near') | ((with_reducible show Array.setIfInBounds _ _ _ = _); rfl) | (with_reducible refine heap_far ?_ ?_; focus (first | omega | (simp; omega) | (simp; done))) | (with_reducible apply heap_grown; with_reducible assumption; (focus (first | omega | (simp; omega)))) | (with_reducible apply heap_call; with_reducible assumption))))
      obtain ⟨kc1b, kf1b, kz1b, kh1b⟩ := blk_cells hb1 (g := w.heap.size + 1) (t := 32) (cs := #[.int .i64 0, .slice none 0 0]) (by (focus (repeat' first | with_reducible assumption | (with_reducible refine heap_drew ?_) | (with_reducible refine heap_drewN ?_) | (with_reducible refine heap_new ?_; focus (first | rfl | omega | (simp; done))) | (with_reducible refine heap_old ?_) | (with_reducible apply heap_near') | ((with_reducible show Array.setIfInBounds _ _ _ = _); rfl) | (with_reducible refine heap_far ?_ ?_; focus (first | omega | (simp; omega) | (simp; done))) | (with_reducible apply heap_grown; with_reducible assumption; (focus (first | omega | (simp; omega)))) | (with_reducible apply heap_call; with_reducible assumption))))
      have hb01 : Below w.heap.size w w1 := below_call HAL.out hb1
      have kb1 : IsBlk w1 w.heap.size 32 := ⟨_, kh1⟩
      have kb2 : IsBlk w1 (w.heap.size + 1) 32 := ⟨_, kh1b⟩
      have HRD := Lib.hid (fun (u0 u1 u3 : Value) => (RdT.set (RdT.set (RdT.set ⟨hr1, hty1⟩ kb1 (by decide) 1 u0) (kb2.set _ _ _) (by decide) 0 u1) ((kb2.set _ _ _).set _ _ _) (by decide) 1 u3))
      clear hb1 kz1 kz1b kh1 kh1b
      go_wp2_with fail
      refine bodyPost_ret (v := .agg #[.int .i64 k, .slice A1 n c1]) ?_ rfl ⟨A1, c1, by rw [HK.out], (HRD.out _ _ _).1, (HRD.out _ _ _).2, ((hb01.setCell (Nat.le_refl _) _).setCell (Nat.le_succ _) _).setCell (Nat.le_succ _) _⟩
      simp [results, Tryd.results43, go_sem, kc1b]

set_option maxRecDepth 100000 in
set_option maxHeartbeats 4000000 in
theorem turned_any (k : Int) (A : Option Addr) (n c : Nat) (L : List ByteArray) (w : World) (h : RdR RS 1 w A n c L) (hn : n ≤ 100000) :
    Calls Tryd.prog 44 #[.agg #[.int .i64 k, .slice A n c]] w (REx w k n L) := by
  obtain ⟨i0, hinf, hz0, hz1, hz2⟩ := info_parts str_info
  obtain ⟨xs, hr0, hf⟩ := h.reads
  have ho' := oneRS hr0 hf h.len
  have hlL := Lib.hid h.len
  have HAL : Hid (Below w.heap.size w ((w.alloc (.cells #[.int .i64 k, .slice A n c] 32)).alloc (.cells #[.int .i64 0, .slice none 0 0] 32))) := Lib.hid (((Below.refl _ _).alloc (Nat.le_refl _) _).alloc (by rw [size_alloc_]; omega) _)
  have HRX := Lib.hid ((hr0.below HAL.out).more HAL.out.size)
  have HH1 : Hid (((w.alloc (.cells #[.int .i64 k, .slice A n c] 32)).alloc (.cells #[.int .i64 0, .slice none 0 0] 32)).heap[w.heap.size]? = some (.cells #[.int .i64 k, .slice A n c] 32 (0, 0))) := Lib.hid (heap_old (heap_new rfl))
  have HH2 : Hid (((w.alloc (.cells #[.int .i64 k, .slice A n c] 32)).alloc (.cells #[.int .i64 0, .slice none 0 0] 32)).heap[w.heap.size + 1]? = some (.cells #[.int .i64 0, .slice none 0 0] 32 (0, 0))) := Lib.hid (heap_new (by rw [size_alloc_]))
  clear h hr0
  by_cases h2 : k = 2
  · subst h2
    have HK : Hid (exK 2 = 3) := Lib.hid rfl
    go_enter Tryd.func44, Tryd.ntmps44
    go_wp2_with (first
      | (at_builtin; go_must (refine wpList_append_r _ rfl (.const (.slice none 0 0)) (.tmp 14) 30 rfl 1 16 w.heap.size 9 i0 (.string ByteArray.empty) RS.stay (by decide) Tryd.underlying30 hinf hz0 hz1 hz2 rfl (by omega) none 0 0 [] rfl (OwR.nil _ _ _ _ _) A n c rfl L xs HRX.out hf hlL.out ho' ?_ ?_ ?_ ?_; (focus (unfold maxLen; omega)); (focus omega); (focus (simp [size_alloc_]; omega)); intro A1 c1 w1 ho1 hg1; rw [Nat.zero_add, List.nil_append] at ho1; (have hb1 := hg1.new); obtain ⟨kc1, kf1, kz1, kh1⟩ := blk_cells (g := w.heap.size) (t := 32) (cs := #[.int .i64 2, .slice A n c]) hb1 HH1.out; obtain ⟨kc1b, kf1b, kz1b, kh1b⟩ := blk_cells (g := w.heap.size + 1) (t := 32) (cs := #[.int .i64 0, .slice none 0 0]) hb1 HH2.out))
      )
    have hb01 : Below w.heap.size w w1 := below_call HAL.out hb1
    have kb2 : IsBlk w1 (w.heap.size + 1) 32 := ⟨_, kh1b⟩
    have HRD := Lib.hid (fun (u0 u1 : Value) => RdT.set (RdT.set ⟨ho1.rd, OwS.ty ho1⟩ kb2 (by decide) 0 u0) (kb2.set _ _ _) (by decide) 1 u1)
    clear hb1 kz1 kz1b kh1 kh1b hg1
    go_wp2_with fail
    refine bodyPost_ret (v := .agg #[.int .i64 3, .slice A1 n c1]) ?_ rfl ⟨A1, c1, by rw [HK.out], (HRD.out _ _).1, (HRD.out _ _).2, (hb01.setCell (Nat.le_succ _) _).setCell (Nat.le_succ _) _⟩
    simp [results, Tryd.results44, go_sem, kc1b]
  · by_cases h3 : k = 3
    · subst h3
      have HK : Hid (exK 3 = 2) := Lib.hid rfl
      go_enter Tryd.func44, Tryd.ntmps44
      go_wp2_with (first
        | (at_builtin; go_must (refine wpList_append_r _ rfl (.const (.slice none 0 0)) (.tmp 14) 30 rfl 1 16 w.heap.size 9 i0 (.string ByteArray.empty) RS.stay (by decide) Tryd.underlying30 hinf hz0 hz1 hz2 rfl (by omega) none 0 0 [] rfl (OwR.nil _ _ _ _ _) A n c rfl L xs HRX.out hf hlL.out ho' ?_ ?_ ?_ ?_; (focus (unfold maxLen; omega)); (focus omega); (focus (simp [size_alloc_]; omega)); intro A1 c1 w1 ho1 hg1; rw [Nat.zero_add, List.nil_append] at ho1; (have hb1 := hg1.new); obtain ⟨kc1, kf1, kz1, kh1⟩ := blk_cells (g := w.heap.size) (t := 32) (cs := #[.int .i64 3, .slice A n c]) hb1 HH1.out; obtain ⟨kc1b, kf1b, kz1b, kh1b⟩ := blk_cells (g := w.heap.size + 1) (t := 32) (cs := #[.int .i64 0, .slice none 0 0]) hb1 HH2.out))
        )
      have hb01 : Below w.heap.size w w1 := below_call HAL.out hb1
      have kb2 : IsBlk w1 (w.heap.size + 1) 32 := ⟨_, kh1b⟩
      have HRD := Lib.hid (fun (u0 u1 : Value) => RdT.set (RdT.set ⟨ho1.rd, OwS.ty ho1⟩ kb2 (by decide) 0 u0) (kb2.set _ _ _) (by decide) 1 u1)
      clear hb1 kz1 kz1b kh1 kh1b hg1
      go_wp2_with fail
      refine bodyPost_ret (v := .agg #[.int .i64 2, .slice A1 n c1]) ?_ rfl ⟨A1, c1, by rw [HK.out], (HRD.out _ _).1, (HRD.out _ _).2, (hb01.setCell (Nat.le_succ _) _).setCell (Nat.le_succ _) _⟩
      simp [results, Tryd.results44, go_sem, kc1b]
    · have HK : Hid (exK k = k) := Lib.hid (by unfold exK; rw [if_neg h2, if_neg h3])
      have d2 : (k == 2) = false := by rw [beq_eq_false_iff_ne]; exact h2
      have d3 : (k == 3) = false := by rw [beq_eq_false_iff_ne]; exact h3
      clear h2 h3
      go_enter Tryd.func44, Tryd.ntmps44
      go_wp2_with (first
        | (at_builtin; go_must (refine wpList_append_r _ rfl (.const (.slice none 0 0)) (.tmp 14) 30 rfl 1 16 w.heap.size 9 i0 (.string ByteArray.empty) RS.stay (by decide) Tryd.underlying30 hinf hz0 hz1 hz2 rfl (by omega) none 0 0 [] rfl (OwR.nil _ _ _ _ _) A n c rfl L xs HRX.out hf hlL.out ho' ?_ ?_ ?_ ?_; (focus (unfold maxLen; omega)); (focus omega); (focus (simp [size_alloc_]; omega)); intro A1 c1 w1 ho1 hg1; rw [Nat.zero_add, List.nil_append] at ho1; (have hb1 := hg1.new); obtain ⟨kc1, kf1, kz1, kh1⟩ := blk_cells (g := w.heap.size) (t := 32) (cs := #[.int .i64 k, .slice A n c]) hb1 HH1.out; obtain ⟨kc1b, kf1b, kz1b, kh1b⟩ := blk_cells (g := w.heap.size + 1) (t := 32) (cs := #[.int .i64 0, .slice none 0 0]) hb1 HH2.out))
        )
      have hb01 : Below w.heap.size w w1 := below_call HAL.out hb1
      have kb2 : IsBlk w1 (w.heap.size + 1) 32 := ⟨_, kh1b⟩
      have HRD := Lib.hid (fun (u0 u1 : Value) => RdT.set (RdT.set ⟨ho1.rd, OwS.ty ho1⟩ kb2 (by decide) 0 u0) (kb2.set _ _ _) (by decide) 1 u1)
      clear hb1 kz1 kz1b kh1 kh1b hg1
      go_wp2_with fail
      refine bodyPost_ret (v := .agg #[.int .i64 k, .slice A1 n c1]) ?_ rfl ⟨A1, c1, by rw [HK.out], (HRD.out _ _).1, (HRD.out _ _).2, (hb01.setCell (Nat.le_succ _) _).setCell (Nat.le_succ _) _⟩
      simp [results, Tryd.results44, go_sem, kc1b]
end Go.Proofs.YtakbpdlfgjfbeaaDoor
