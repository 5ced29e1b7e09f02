/- The walk of the law DiskCuts. -/
import Derived.Test.YtdfmdciopeklhaaMade
namespace Go.Proofs.Ytdfmdciopeklhaa
open Go.RowKit
set_option linter.unusedSimpArgs false
set_option linter.unusedVariables false

theorem step_append_g {P : Program} (w : World) {ops : Array Oper} {o : Oper} {a : Act} {K : Act → World → Prop} {Q : Exit → Act → World → Prop} {E : Prop} (hw : Region.wanted o (yielded ops a.tmps) = true) (s x : Operand) (t : TypeId)
    (ho : o.op = .call { callee := .builtin .append, args := #[s, x], argTypes := #[t, t] })
    (base : Nat) (e : TypeId) (i : TypeInfo) (ht : P.underlying t = some (.slice e)) (hi : P.info? e = some i) (hz : i.zero = some (.int .u8 0))
    (hsize : i.size = 1) (hby : i.bytes = 1)
    (A : Option Addr) (n c : Nat) (l : List UInt8) (hs : a.eval s = .slice A n c) (hown : OwB w base e A n c l)
    (A2 : Option Addr) (m c2 : Nat) (r : List UInt8) (hx : a.eval x = .slice A2 m c2) (hr : RdB w A2 m c2 r)
    (hbytes : n + m ≤ 140737488355328) (hbase : base ≤ w.heap.size)
    (h : ∀ A' c' w', OwB w' base e A' (n + m) c' (l ++ r) → w.grownBy w' (Value.slice A n c).ownBlock →
      K (a.put o.dst (.slice A' (n + m) c')) w') :
    if Region.wanted o (yielded ops a.tmps) = true then Oper.wp P o a w K Q else E := by
  rw [if_pos hw]
  refine wp_append_any w s x t ho base e i (.int .u8 0) 1 1 ht hi hz hsize hby rfl (by omega) (.slice A n c) n (bs l) hs hown.own w.heap.size A2 m c2 (bs r) hx hr.reads (bs_one r) (Nat.le_trans hbytes pow47) (by omega) hbase ?_
  intro v' w' h1 h2 _
  rw [← bs_append] at h1
  obtain ⟨A', c', rfl, h3⟩ := OwB.of_own h1
  exact h A' c' w' h3 h2

theorem grown_nil {X w : World} (h : X.grownBy w (Value.slice none 0 0).ownBlock) : Below X.heap.size X w := (Below.refl _ _).grown h (Nat.le_refl _) (by simp [Value.ownBlock])

theorem cut_ok (A : Option Addr) (n c k : Nat) (l : List UInt8) (s : Int) (w : World) (hr : RdB w A n c l) (hv : validB n s = true) (hk : k ≤ n) :
    Calls Try.prog 22 #[.agg #[.slice A n c, .int .i64 s], .int .i64 k] w (RDiskE w (l.take k) (min s k) 0) := by
  have h := cut_any A n c l s k w hr
  have h1 := hr.len
  have ht' : inB n k = true := by simp [inB]; omega
  have e1 : cuL l s k = l.take k := by simp [cuL, ← h1, hv, ht']
  have e2 : cuS l s k = min s k := by simp [cuS, ← h1, hv, ht']
  have e3 : cuE l s k = 0 := by simp [cuE, ← h1, hv, ht']
  rw [e1, e2, e3] at h
  exact h

set_option maxHeartbeats 6400000 in
theorem cuts_walk (A : Option Addr) (n c : Nat) (zs : List Int) (x at_ : Int) (B : Option Addr) (m cb : Nat) (b : List UInt8) (w : World) (hr : RdI w A n c zs) (hrb : RdB w B m cb b) :
    Calls Try.prog 9 #[.slice A n c, .int .i64 x, .int .i64 at_, .slice B m cb] w fun e w' => e = .returned (.bool true) ∧ Below w.heap.size w w' := by
  have hA := Lib.hid (awake_law w)
  by_cases h5 : 500 < m
  · have hd : decide (500 < m) = true := by simpa using h5
    go_enter Try.func9, Try.ntmps9
    go_wp2_with (go_at_call 10; refine (hA.out _ ?_).mono ?_; (refine bel_out ?_; (focus (repeat' first | (with_reducible refine bel_refl ?_) | with_reducible assumption | with_reducible refine bel_drew ?_ | with_reducible refine bel_drewN _ ?_ | with_reducible refine bel_alloc _ ?_ | with_reducible refine bel_set ?_ _ ?_ | (with_reducible apply bel_call; with_reducible assumption) | with_reducible exact Nat.le_refl _ | omega | (simp; done) | (simp; omega)))); rintro e w1 ⟨rfl, hb1⟩)
    go_ret
    exact ⟨rfl, by (refine bel_out ?_; (focus (repeat' first | (with_reducible refine bel_refl ?_) | with_reducible assumption | with_reducible refine bel_drew ?_ | with_reducible refine bel_drewN _ ?_ | with_reducible refine bel_alloc _ ?_ | with_reducible refine bel_set ?_ _ ?_ | (with_reducible apply bel_call; with_reducible assumption) | with_reducible exact Nat.le_refl _ | omega | (simp; done) | (simp; omega))))⟩
  · have hd : decide (500 < m) = false := by simpa using h5
    have HM := Lib.hid (made_any A n c zs x w hr)
    obtain ⟨i0, hi0, hz0', hz1', hz2'⟩ := u8_parts
    go_enter Try.func9, Try.ntmps9
    go_wp2_with (go_at_call 16; refine HM.out.mono ?_; rintro e w1 ⟨v1, rfl, ⟨A1, n1, c1, l1, s1, rfl, ho1, hv1, hn1⟩, hb1⟩)
    have hr1 := ho1.rd
    have hcap1 := ho1.cap
    have hmax1 := ho1.max
    obtain ⟨v1, v2, v3⟩ := valid_le hv1
    obtain ⟨k, hk⟩ := Int.eq_ofNat_of_zero_le (Int.emod_nonneg at_ (by omega : (n1 : Int) + 1 ≠ 0))
    have hkn : k ≤ n1 := by have := Int.emod_lt_of_pos at_ (by omega : (0 : Int) < (n1 : Int) + 1); omega
    have hro : ∀ W : World, Calls Try.prog 18 #[.int .i64 at_, .int .i64 ((n1 : Int) + 1)] W fun e w' => e = .returned (.int .i64 k) ∧ W = w' := fun W => by
      rw [← hk]; exact (round_any at_ ((n1 : Int) + 1) W (by omega) (by omega)).mono fun _ _ h => ⟨h.1, h.2.symm⟩
    have hcut : ∀ (W : World) (M : Int), min s1 (k : Int) = M → RdB W A1 n1 c1 l1 → Calls Try.prog 22 #[.agg #[.slice A1 n1 c1, .int .i64 s1], .int .i64 k] W (RDiskE W (l1.take k) M 0) := fun W M hM hW => by
      rw [← hM]; exact cut_ok A1 n1 c1 k l1 s1 W hW hv1 hkn
    have HC := Lib.hid hcut
    have hrp := hr1.pre k hkn
    have hkc : (k : Int) ≤ (c1 : Int) := by omega
    have hsame : ∀ (W : World) (Aa Ab : Option Addr) (na ca nb cb' : Nat), RdB W Aa na ca (l1.take k ++ b) → RdB W Ab nb cb' (l1.take k ++ b) → Calls Try.prog 17 #[.slice Aa na ca, .slice Ab nb cb'] W fun e w' => e = .returned (.bool true) ∧ Below W.heap.size W w' :=
      fun W Aa Ab na ca nb cb' h1 h2 => same_true Aa na ca Ab nb cb' _ _ W h1 h2 rfl
    have HS := Lib.hid hsame
    clear hk hcut hsame
    refine (hro _).mono ?_
    rintro e W ⟨rfl, rfl⟩
    clear hro
    obtain ⟨M, hM, hM0, hM1⟩ : ∃ M : Int, min s1 (k : Int) = M ∧ 0 ≤ M ∧ M ≤ k := ⟨min s1 k, rfl, by omega, by omega⟩
    have hif : (if (k : Int) < s1 then (k : Int) else s1) = M := by split <;> omega
    have hvM : validB k M = true := by simp [validB]; omega
    have HMM := Lib.hid hM
    clear hM
    go_wp2_with (first
      | (go_at_call 22; refine (HC.out _ M HMM.out ?_).mono ?_; (focus (refine RdB.below hr1 ?_; (refine bel_out ?_; (focus (repeat' first | (with_reducible refine bel_refl ?_) | with_reducible assumption | with_reducible refine bel_drew ?_ | with_reducible refine bel_drewN _ ?_ | with_reducible refine bel_alloc _ ?_ | with_reducible refine bel_set ?_ _ ?_ | (with_reducible apply bel_call; with_reducible assumption) | with_reducible exact Nat.le_refl _ | omega | (simp; done) | (simp; omega)))))); rintro e w2 ⟨v2, rfl, ⟨d2, rfl, ⟨A2, n2, c2, rfl, ho2⟩⟩, hb2⟩; (have hn2 : n2 = k := ho2.len.trans hrp.len.symm); subst hn2; have hr2 := ho2.rd; obtain ⟨kc2, kf2, kz2, kh2⟩ := blk_cells hb2 (g := w1.heap.size) (t := 24) (cs := #[.slice A1 n1 c1, .int .i64 s1]) (by (focus (repeat' first | with_reducible assumption | (with_reducible refine heap_drew ?_) | (with_reducible refine heap_drewN ?_) | (with_reducible refine heap_new ?_; focus (first | rfl | omega | (simp; done))) | (with_reducible refine heap_old ?_) | (with_reducible apply heap_near') | ((with_reducible show Array.setIfInBounds _ _ _ = _); rfl) | (with_reducible refine heap_far ?_ ?_; focus (first | omega | (simp; omega) | (simp; done))) | (with_reducible apply heap_grown; with_reducible assumption; (focus (first | omega | (simp; omega)))) | (with_reducible apply heap_call; with_reducible assumption)))))
      | (go_at_call 19; go_must (refine (write_ok A2 n2 c2 (l1.take n2) M B m cb b _ ?_ ?_ hvM (by omega)).mono ?_); (focus (refine RdB.below hr2 ?_; (refine bel_out ?_; (focus (repeat' first | (with_reducible refine bel_refl ?_) | with_reducible assumption | with_reducible refine bel_drew ?_ | with_reducible refine bel_drewN _ ?_ | with_reducible refine bel_alloc _ ?_ | with_reducible refine bel_set ?_ _ ?_ | (with_reducible apply bel_call; with_reducible assumption) | with_reducible exact Nat.le_refl _ | omega | (simp; done) | (simp; omega)))))); (focus (refine RdB.below hrb ?_; (refine bel_out ?_; (focus (repeat' first | (with_reducible refine bel_refl ?_) | with_reducible assumption | with_reducible refine bel_drew ?_ | with_reducible refine bel_drewN _ ?_ | with_reducible refine bel_alloc _ ?_ | with_reducible refine bel_set ?_ _ ?_ | (with_reducible apply bel_call; with_reducible assumption) | with_reducible exact Nat.le_refl _ | omega | (simp; done) | (simp; omega)))))); rintro e w3 ⟨v3, rfl, ⟨d3, rfl, ⟨A3, n3, c3, rfl, ho3⟩⟩, hb3⟩; have hr3 := ho3.rd; obtain ⟨kc3, kf3, kz3, kh3⟩ := blk_cells hb3 (g := w1.heap.size) (t := 24) (cs := #[.slice A1 n1 c1, .int .i64 s1]) (by (focus (repeat' first | with_reducible assumption | (with_reducible refine heap_drew ?_) | (with_reducible refine heap_drewN ?_) | (with_reducible refine heap_new ?_; focus (first | rfl | omega | (simp; done))) | (with_reducible refine heap_old ?_) | (with_reducible apply heap_near') | ((with_reducible show Array.setIfInBounds _ _ _ = _); rfl) | (with_reducible refine heap_far ?_ ?_; focus (first | omega | (simp; omega) | (simp; done))) | (with_reducible apply heap_grown; with_reducible assumption; (focus (first | omega | (simp; omega)))) | (with_reducible apply heap_call; with_reducible assumption))))))
    have HK : Hid (∀ W : World, Bel (w3.heap.size + 1) (w3.alloc (.cells #[.slice A3 n3 c3, .int .i64 M] 24)) W →
        W.cell? ⟨w1.heap.size, 0, none⟩ = some (.slice A1 n1 c1) ∧ W.cell? ⟨w1.heap.size, 1, none⟩ = some (.int .i64 s1) ∧
        W.cell? ⟨w2.heap.size, 0, none⟩ = some (.slice A2 n2 c2) ∧ W.cell? ⟨w2.heap.size, 1, none⟩ = some (.int .i64 M) ∧
        W.cell? ⟨w3.heap.size, 0, none⟩ = some (.slice A3 n3 c3) ∧ W.cell? ⟨w3.heap.size, 1, none⟩ = some (.int .i64 M)) := by
      intro W hW0
      have hW : Below (w3.alloc (.cells #[.slice A3 n3 c3, .int .i64 M] 24)).heap.size (w3.alloc (.cells #[.slice A3 n3 c3, .int .i64 M] 24)) W := by
        have := hW0.2
        simpa using this
      obtain ⟨kcp1, kfp1, kzp1, khp1⟩ := blk_cells hW (g := w1.heap.size) (t := 24) (cs := #[.slice A1 n1 c1, .int .i64 s1]) (by (focus (repeat' first | with_reducible assumption | (with_reducible refine heap_drew ?_) | (with_reducible refine heap_drewN ?_) | (with_reducible refine heap_new ?_; focus (first | rfl | omega | (simp; done))) | (with_reducible refine heap_old ?_) | (with_reducible apply heap_near') | ((with_reducible show Array.setIfInBounds _ _ _ = _); rfl) | (with_reducible refine heap_far ?_ ?_; focus (first | omega | (simp; omega) | (simp; done))) | (with_reducible apply heap_grown; with_reducible assumption; (focus (first | omega | (simp; omega)))) | (with_reducible apply heap_call; with_reducible assumption))))
      obtain ⟨kcp2, kfp2, kzp2, khp2⟩ := blk_cells hW (g := w2.heap.size) (t := 24) (cs := #[.slice A2 n2 c2, .int .i64 M]) (by (focus (repeat' first | with_reducible assumption | (with_reducible refine heap_drew ?_) | (with_reducible refine heap_drewN ?_) | (with_reducible refine heap_new ?_; focus (first | rfl | omega | (simp; done))) | (with_reducible refine heap_old ?_) | (with_reducible apply heap_near') | ((with_reducible show Array.setIfInBounds _ _ _ = _); rfl) | (with_reducible refine heap_far ?_ ?_; focus (first | omega | (simp; omega) | (simp; done))) | (with_reducible apply heap_grown; with_reducible assumption; (focus (first | omega | (simp; omega)))) | (with_reducible apply heap_call; with_reducible assumption))))
      obtain ⟨kcp3, kfp3, kzp3, khp3⟩ := blk_cells hW (g := w3.heap.size) (t := 24) (cs := #[.slice A3 n3 c3, .int .i64 M]) (by (focus (repeat' first | with_reducible assumption | (with_reducible refine heap_drew ?_) | (with_reducible refine heap_drewN ?_) | (with_reducible refine heap_new ?_; focus (first | rfl | omega | (simp; done))) | (with_reducible refine heap_old ?_) | (with_reducible apply heap_near') | ((with_reducible show Array.setIfInBounds _ _ _ = _); rfl) | (with_reducible refine heap_far ?_ ?_; focus (first | omega | (simp; omega) | (simp; done))) | (with_reducible apply heap_grown; with_reducible assumption; (focus (first | omega | (simp; omega)))) | (with_reducible apply heap_call; with_reducible assumption))))
      exact ⟨kcp1 0, kcp1 1, kcp2 0, kcp2 1, kcp3 0, kcp3 1⟩
    have hm5 : m ≤ 500 := by omega
    have z1 := hb1.size
    have z3 : w1.heap.size < w3.heap.size := by omega
    have hkn2 : n2 ≤ 100 := by omega
    clear kc2 kf2 kh2 kc3 kf3 kh3 h5
    go_region_held3 (fun W =>
        W.cell? ⟨w1.heap.size, 0, none⟩ = some (.slice A1 n1 c1) ∧ W.cell? ⟨w1.heap.size, 1, none⟩ = some (.int .i64 s1) ∧
        W.cell? ⟨w2.heap.size, 0, none⟩ = some (.slice A2 n2 c2) ∧ W.cell? ⟨w2.heap.size, 1, none⟩ = some (.int .i64 M) ∧
        W.cell? ⟨w3.heap.size, 0, none⟩ = some (.slice A3 n3 c3) ∧ W.cell? ⟨w3.heap.size, 1, none⟩ = some (.int .i64 M))
      ((refine HK.out _ ?_; (focus (repeat' first | (with_reducible refine bel_refl ?_) | with_reducible assumption | with_reducible refine bel_drew ?_ | with_reducible refine bel_drewN _ ?_ | with_reducible refine bel_alloc _ ?_ | with_reducible refine bel_set ?_ _ ?_ | (with_reducible apply bel_call; with_reducible assumption) | with_reducible exact Nat.le_refl _ | omega | (simp; done) | (simp; omega))); done))
      (first
        | (go_at_call 10; refine (hA.out _ ?_).mono ?_; (refine bel_out ?_; (focus (repeat' first | (with_reducible refine bel_refl ?_) | with_reducible assumption | with_reducible refine bel_drew ?_ | with_reducible refine bel_drewN _ ?_ | with_reducible refine bel_alloc _ ?_ | with_reducible refine bel_set ?_ _ ?_ | (with_reducible apply bel_call; with_reducible assumption) | with_reducible exact Nat.le_refl _ | omega | (simp; done) | (simp; omega)))); rintro e w5 ⟨rfl, hb5⟩)
        | (go_at_call 17; refine (HS.out _ _ _ _ _ _ _ ?_ ?_).mono ?_; (focus (refine RdB.below hr3 ?_; (refine bel_out ?_; (focus (repeat' first | (with_reducible refine bel_refl ?_) | with_reducible assumption | with_reducible refine bel_drew ?_ | with_reducible refine bel_drewN _ ?_ | with_reducible refine bel_alloc _ ?_ | with_reducible refine bel_set ?_ _ ?_ | (with_reducible apply bel_call; with_reducible assumption) | with_reducible exact Nat.le_refl _ | omega | (simp; done) | (simp; omega)))))); (focus exact ho7.rd); rintro e w8 ⟨rfl, hb8⟩)
        | (refine step_append_g _ ?_ (.const (.slice none 0 0)) (.tmp 64) 22 ?_ (w3.heap.size + 1) 5 i0 Try.underlying22 hi0 hz0' hz1' hz2' none 0 0 [] ?_ (OwB.nil _ _ _) A1 n2 c1 (l1.take n2) ?_ ?_ ?_ ?_ ?_; rfl; rfl; rfl; rfl; (focus (refine RdB.below hrp ?_; (refine bel_out ?_; (focus (repeat' first | (with_reducible refine bel_refl ?_) | with_reducible assumption | with_reducible refine bel_drew ?_ | with_reducible refine bel_drewN _ ?_ | with_reducible refine bel_alloc _ ?_ | with_reducible refine bel_set ?_ _ ?_ | (with_reducible apply bel_call; with_reducible assumption) | with_reducible exact Nat.le_refl _ | omega | (simp; done) | (simp; omega)))))); (focus omega); (focus (have := hb5.size; simp at this; omega)); intro A6 c6 w6 ho6 hg6; have hb6 := grown_nil hg6)
        | (refine step_append_g _ ?_ (.tmp 65) (.tmp 66) 22 ?_ (w3.heap.size + 1) 5 i0 Try.underlying22 hi0 hz0' hz1' hz2' A6 (0 + n2) c6 ([] ++ l1.take n2) ?_ ho6 B m cb b ?_ ?_ ?_ ?_ ?_; rfl; rfl; rfl; rfl; (focus (refine RdB.below hrb ?_; (refine bel_out ?_; (focus (repeat' first | (with_reducible refine bel_refl ?_) | with_reducible assumption | with_reducible refine bel_drew ?_ | with_reducible refine bel_drewN _ ?_ | with_reducible refine bel_alloc _ ?_ | with_reducible refine bel_set ?_ _ ?_ | (with_reducible apply bel_call; with_reducible assumption) | with_reducible exact Nat.le_refl _ | omega | (simp; done) | (simp; omega)))))); (focus omega); (focus (have s5 := hb5.size; have s6 := hb6.size; (try simp at s5); (try simp at s6); omega)); intro A7 c7 w7 ho7a hg7; have ho7 : OwB w7 (w3.heap.size + 1) 5 A7 (n2 + m) c7 (l1.take n2 ++ b) := (by simpa using ho7a); have hq7 : Bel (w3.heap.size + 1) (w3.alloc (.cells #[.slice A3 n3 c3, .int .i64 M] 24)) w7 := bel_grown hg7 (fun j hj => (ho6.own.lt j hj).1) (by (focus (repeat' first | (with_reducible refine bel_refl ?_) | with_reducible assumption | with_reducible refine bel_drew ?_ | with_reducible refine bel_drewN _ ?_ | with_reducible refine bel_alloc _ ?_ | with_reducible refine bel_set ?_ _ ?_ | (with_reducible apply bel_call; with_reducible assumption) | with_reducible exact Nat.le_refl _ | omega | (simp; done) | (simp; omega)))); have hq8 : Bel w.heap.size w w7 := bel_grown hg7 (fun j hj => Nat.le_trans (by omega) (ho6.own.lt j hj).1) (by (focus (repeat' first | (with_reducible refine bel_refl ?_) | with_reducible assumption | with_reducible refine bel_drew ?_ | with_reducible refine bel_drewN _ ?_ | with_reducible refine bel_alloc _ ?_ | with_reducible refine bel_set ?_ _ ?_ | (with_reducible apply bel_call; with_reducible assumption) | with_reducible exact Nat.le_refl _ | omega | (simp; done) | (simp; omega)))); have hq9 : Bel w3.heap.size w3 w7 := bel_grown hg7 (fun j hj => Nat.le_trans (by omega) (ho6.own.lt j hj).1) (by (focus (repeat' first | (with_reducible refine bel_refl ?_) | with_reducible assumption | with_reducible refine bel_drew ?_ | with_reducible refine bel_drewN _ ?_ | with_reducible refine bel_alloc _ ?_ | with_reducible refine bel_set ?_ _ ?_ | (with_reducible apply bel_call; with_reducible assumption) | with_reducible exact Nat.le_refl _ | omega | (simp; done) | (simp; omega))))))
    go_wp2
    go_ret
    exact ⟨rfl, by (refine bel_out ?_; (focus (repeat' first | (with_reducible refine bel_refl ?_) | with_reducible assumption | with_reducible refine bel_drew ?_ | with_reducible refine bel_drewN _ ?_ | with_reducible refine bel_alloc _ ?_ | with_reducible refine bel_set ?_ _ ?_ | (with_reducible apply bel_call; with_reducible assumption) | with_reducible exact Nat.le_refl _ | omega | (simp; done) | (simp; omega))))⟩

end Go.Proofs.Ytdfmdciopeklhaa
