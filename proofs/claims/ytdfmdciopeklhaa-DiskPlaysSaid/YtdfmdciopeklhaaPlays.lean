/- The walk of the law DiskPlays. -/
import Derived.Test.YtdfmdciopeklhaaAct
namespace Go.Proofs.Ytdfmdciopeklhaa
open Go.RowKit
set_option linter.unusedSimpArgs false
set_option linter.unusedVariables false

theorem plays_own {w : World} {ga gb base nx cx : Nat} {p q p' q' a0 a1 b0 b1 : Value} {Ax : Option Addr} {lx : List UInt8} (ha : w.heap[ga]? = some (.cells #[p, q] 24 (0, 0))) (hb : w.heap[gb]? = some (.cells #[p', q'] 24 (0, 0)))
    (ho : OwB w base 5 Ax nx cx lx) :
    OwB ((((w.setCell ⟨ga, 0, none⟩ a0).setCell ⟨ga, 1, none⟩ a1).setCell ⟨gb, 0, none⟩ b0).setCell ⟨gb, 1, none⟩ b1) base 5 Ax nx cx lx := by
  have s1 := OwB.setT (i := 0) (u := a0) ha (by decide) ho
  have s2 := OwB.setT (i := 1) (u := a1) (heap_near ha) (by decide) s1
  obtain ⟨cs, hcs⟩ : ∃ cs, ((w.setCell ⟨ga, 0, none⟩ a0).setCell ⟨ga, 1, none⟩ a1).heap[gb]? = some (.cells cs 24 (0, 0)) := by
    by_cases e : gb = ga
    · subst e; exact ⟨_, heap_near (heap_near ha)⟩
    · exact ⟨_, heap_far e (heap_far e hb)⟩
  have s3 := OwB.setT (i := 0) (u := b0) hcs (by decide) s2
  exact OwB.setT (i := 1) (u := b1) (heap_near hcs) (by decide) s3

set_option maxHeartbeats 3200000 in
theorem plays_walk (A : Option Addr) (n c : Nat) (zs : List Int) (x : Int) (w : World) (hr : RdI w A n c zs) :
    Calls Try.prog 8 #[.slice A n c, .int .i64 x] w fun e w' => e = .returned (.bool true) ∧ Below w.heap.size w w' := by
  have hA := Lib.hid (awake_law w)
  obtain ⟨K, hK⟩ := Int.eq_ofNat_of_zero_le (Int.emod_nonneg x (by omega : (40 : Int) ≠ 0))
  have hK6 : K < 40 := by have := Int.emod_lt_of_pos x (by omega : (0 : Int) < 40); omega
  have hr1 : ∀ W : World, Calls Try.prog 18 #[.int .i64 x, .int .i64 40] W fun e w' => e = .returned (.int .i64 K) ∧ W = w' := fun W => by
    rw [← hK]; exact (round_any x 40 W (by omega) (by omega)).mono fun _ _ h => ⟨h.1, h.2.symm⟩
  have HR1 := Lib.hid hr1
  have HF := Lib.hid (from_any A n c zs w hr)
  clear hr1 hK
  go_enter Try.func8, Try.ntmps8
  go_wp2_with (first
    | (go_at_call 25; refine HF.out.mono ?_; rintro e w1 ⟨v1, rfl, ⟨gs, rfl, hgs, hsrc⟩, hb1⟩)
    | (go_at_call 18; (with_reducible refine (HR1.out _).mono ?_); rintro e W ⟨rfl, rfl⟩))
  have hgs2 : gs < w1.heap.size := by
    obtain ⟨k0, s0, _, hh0⟩ := hsrc
    exact Blk.lt hh0
  have hz1 := hb1.size
  go_loopw [8] (fun i wr => ∃ (j : Nat) (Aa : Option Addr) (nd ca : Nat) (Ab : Option Addr) (cb : Nat) (l : List UInt8) (s : Int), j ≤ K ∧ i = .int .i64 j ∧ SrcAt wr gs A n c ∧
      wr.heap[w1.heap.size]? = some (.cells #[.slice Aa nd ca, .int .i64 s] 24 (0, 0)) ∧ wr.heap[w1.heap.size + 1]? = some (.cells #[.slice Ab nd cb, .int .i64 s] 24 (0, 0)) ∧
      OwB wr w.heap.size 5 Aa nd ca l ∧ OwB wr w.heap.size 5 Ab nd cb l ∧ validB nd s = true ∧ nd + 5 * j ≤ 200 ∧ Below w.heap.size w wr) (fun i _ => (intOf i).toNat)
  case atStart => exact ⟨K, none, 0, 0, none, 0, [], 0, Nat.le_refl _, rfl, (by (focus (repeat' first | with_reducible assumption | (with_reducible apply SrcAt.drew) | (with_reducible apply SrcAt.drewN) | (with_reducible apply SrcAt.alloc) | (with_reducible apply SrcAt.set) | (with_reducible apply SrcAt.call; with_reducible assumption) | omega | (simp; omega)))), (by (focus (repeat' first | with_reducible assumption | (with_reducible refine heap_drew ?_) | (with_reducible refine heap_drewN ?_) | (with_reducible refine heap_new ?_; focus (first | rfl | omega | (simp; done))) | (with_reducible refine heap_old ?_) | (with_reducible apply heap_near') | ((with_reducible show Array.setIfInBounds _ _ _ = _); rfl) | (with_reducible refine heap_far ?_ ?_; focus (first | omega | (simp; omega) | (simp; done))) | (with_reducible apply heap_grown; with_reducible assumption; (focus (first | omega | (simp; omega)))) | (with_reducible apply heap_call; with_reducible assumption)))), (by (focus (repeat' first | with_reducible assumption | (with_reducible refine heap_drew ?_) | (with_reducible refine heap_drewN ?_) | (with_reducible refine heap_new ?_; focus (first | rfl | omega | (simp; done))) | (with_reducible refine heap_old ?_) | (with_reducible apply heap_near') | ((with_reducible show Array.setIfInBounds _ _ _ = _); rfl) | (with_reducible refine heap_far ?_ ?_; focus (first | omega | (simp; omega) | (simp; done))) | (with_reducible apply heap_grown; with_reducible assumption; (focus (first | omega | (simp; omega)))) | (with_reducible apply heap_call; with_reducible assumption)))), OwB.nil _ _ _, OwB.nil _ _ _, rfl, by omega, ((hb1.alloc hz1 _).alloc (by simp; omega) _)⟩
  case round =>
    obtain ⟨j, Aa, nd, ca, Ab, cb, l, s, hj, rfl, hsr, ha, hb, hoa, hob, hv, hnd, hbw⟩ := hrel
    clear hsrc
    cases j with
    | zero =>
      clear hb1
      go_wp2_with (go_at_call 10; refine (hA.out _ ?_).mono ?_; (refine bel_out ?_; (focus (repeat' first | (with_reducible refine bel_refl ?_) | with_reducible assumption | with_reducible refine bel_drew ?_ | with_reducible refine bel_drewN _ ?_ | with_reducible refine bel_alloc _ ?_ | with_reducible refine bel_set ?_ _ ?_ | (with_reducible apply bel_call; with_reducible assumption) | with_reducible exact Nat.le_refl _ | omega | (simp; done) | (simp; omega)))); rintro e w6 ⟨rfl, hb6⟩)
      go_ret
      exact ⟨rfl, below_call hbw hb6⟩
    | succ j =>
      have ka := Blk.cell ha
      have kb := Blk.cell hb
      have hlt := Blk.lt ha
      clear hb1
      go_wp2_with (go_at_call 26; refine (act_any w gs A n c zs Aa nd ca Ab cb l s _ hr hbw hgs (by omega) hsr hoa hob hv (by omega)).mono ?_; rintro e w2 ⟨Aa2, ca2, Ab2, cb2, nd2, l2, s2, rfl, hoa2, hob2, hv2, hnd2, hsr2, hg2⟩; have ha2 := heap_grown hg2 (by omega) ha; have hb2 := heap_grown hg2 (by omega) hb; have ka2 := Blk.cell ha2; have kb2 := Blk.cell hb2; have fa2 := Blk.frozen ha2; have fb2 := Blk.frozen hb2; have hbw2 : Below w.heap.size w w2 := hbw.grown hg2 hbw.size (fun k hk => by injection hk with hk; omega))
      go_roundw
      case rel => exact ⟨j, Aa2, nd2, ca2, Ab2, cb2, l2, s2, by omega, by go_num, (by (focus (repeat' first | with_reducible assumption | (with_reducible apply SrcAt.drew) | (with_reducible apply SrcAt.drewN) | (with_reducible apply SrcAt.alloc) | (with_reducible apply SrcAt.set) | (with_reducible apply SrcAt.call; with_reducible assumption) | omega | (simp; omega)))), (by (focus (repeat' first | with_reducible assumption | (with_reducible refine heap_drew ?_) | (with_reducible refine heap_drewN ?_) | (with_reducible refine heap_new ?_; focus (first | rfl | omega | (simp; done))) | (with_reducible refine heap_old ?_) | (with_reducible apply heap_near') | ((with_reducible show Array.setIfInBounds _ _ _ = _); rfl) | (with_reducible refine heap_far ?_ ?_; focus (first | omega | (simp; omega) | (simp; done))) | (with_reducible apply heap_grown; with_reducible assumption; (focus (first | omega | (simp; omega)))) | (with_reducible apply heap_call; with_reducible assumption)))), (by (focus (repeat' first | with_reducible assumption | (with_reducible refine heap_drew ?_) | (with_reducible refine heap_drewN ?_) | (with_reducible refine heap_new ?_; focus (first | rfl | omega | (simp; done))) | (with_reducible refine heap_old ?_) | (with_reducible apply heap_near') | ((with_reducible show Array.setIfInBounds _ _ _ = _); rfl) | (with_reducible refine heap_far ?_ ?_; focus (first | omega | (simp; omega) | (simp; done))) | (with_reducible apply heap_grown; with_reducible assumption; (focus (first | omega | (simp; omega)))) | (with_reducible apply heap_call; with_reducible assumption)))), plays_own ha2 hb2 hoa2, plays_own ha2 hb2 hob2, hv2, by omega, ((((hbw2.setCell (by simp; omega) _).setCell (by simp; omega) _).setCell (by simp; omega) _).setCell (by simp; omega) _)⟩
      case measure => simp [intOf]

end Go.Proofs.Ytdfmdciopeklhaa
