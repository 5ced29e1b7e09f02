/- The walk of the law JournalLimits. -/
import Derived.Test.YtaagmiidapammaaJ8
import Derived.Lib.AppendZerosOnto
namespace Go.Proofs.Ytaagmiidapammaa
open Go.RowKit
set_option linter.unusedSimpArgs false
set_option linter.unusedVariables false

theorem round_lit (x N : Int) (hn : 0 < N) (hn2 : N ≤ 4611686018427387904) : ∃ k : Int, 0 ≤ k ∧ k < N ∧ ∀ W : World, Calls Try.prog 17 #[.int .i64 x, .int .i64 N] W fun e w' => e = .returned (.int .i64 k) ∧ W = w' :=
  ⟨x % N, Int.emod_nonneg _ (by omega), Int.emod_lt_of_pos _ hn, fun W => (round_any x N W hn hn2).mono fun _ _ h => ⟨h.1, h.2.symm⟩⟩

theorem next_big (A : Option Addr) (c : Nat) (w : World) (hr : RdB w A 16 c ([0, 1, 0, 1] ++ List.replicate 12 0)) :
    Calls Try.prog 18 #[.slice A 16 c] w (Ret w fun v w' => ∃ A' n' c', v = .tuple #[.agg #[.int .i64 0, .slice A' n' c'], .int .i64 0, .int .i64 3]) := by
  have he : nxE ([0, 1, 0, 1] ++ List.replicate 12 0) = 3 := by decide
  obtain ⟨e1, e2, e3⟩ := nx_no he (by omega)
  refine (next_any A 16 c _ w hr).mono ?_
  rintro e w' ⟨v, rfl, ⟨A', n', c', rfl, ho⟩, hb⟩
  rw [he, e1, e2]
  exact ⟨_, rfl, ⟨A', n', c', rfl⟩, hb⟩

/-- Frame at data of N zeros -/
theorem frame_zeros (A : Option Addr) (N c : Nat) (w : World) (hr : RdB w A N c (List.replicate N 0)) (hN : N ≤ 65536) :
    Calls Try.prog 12 #[.agg #[.int .i64 1, .slice A N c]] w (Ret w fun v w' => ∃ A' c', v = .tuple #[.slice A' (16 + N) c', .int .i64 0]) := by
  refine (frame_okI 1 1 rfl A N c _ w hr (by omega) (by omega) hN).mono ?_
  rintro e w' ⟨v, rfl, ⟨A', n', c', rfl, ho⟩, hb⟩
  have hn : n' = 16 + N := by rw [ho.len, frameB_length, List.length_replicate]
  subst hn
  exact ⟨_, rfl, ⟨A', c', rfl⟩, hb⟩
theorem frame_zeros_no (A : Option Addr) (N c : Nat) (w : World) (hN : 65536 < N) :
    Calls Try.prog 12 #[.agg #[.int .i64 1, .slice A N c]] w (Ret w fun v w' => ∃ A' n' c', v = .tuple #[.slice A' n' c', .int .i64 3]) := by
  refine (frame_big 1 A N c [] w rfl hN).mono ?_
  rintro e w' ⟨v, rfl, ⟨A', n', c', rfl, ho⟩, hb⟩
  exact ⟨_, rfl, ⟨A', n', c', rfl⟩, hb⟩
theorem frame_nil (S E : Int) (w : World) (hE : frE S [] = E) :
    Calls Try.prog 12 #[.agg #[.int .i64 S, .slice none 0 0]] w (Ret w fun v w' => ∃ A' n' c', v = .tuple #[.slice A' n' c', .int .i64 E]) := by
  refine (frame_any S none 0 0 [] w (RdB.nil w)).mono ?_
  rintro e w' ⟨v, rfl, ⟨A', n', c', rfl, ho⟩, hb⟩
  rw [hE]
  exact ⟨_, rfl, ⟨A', n', c', rfl⟩, hb⟩

theorem toList_zeroCells1 (z : Value) (n : Nat) : (Builtin.zeroCells #[z] n).toList = List.replicate n z := by
  apply List.ext_getElem?
  intro i
  by_cases h : i < n
  · simp [Builtin.zeroCells, List.getElem?_replicate, h, Nat.mod_one]
  · simp [Builtin.zeroCells, List.getElem?_replicate, h]

theorem append_lit (W : World) : ∃ (cap : Nat) (w' : World), (Builtin.append_ #[22, 3] 22 #[.slice (some ⟨W.heap.size, 0, none⟩) 4 4, .int .i64 12]).run Try.prog (W.alloc (.cells #[.int .u8 0, .int .u8 1, .int .u8 0, .int .u8 1] 5)) = .ok (.slice (some ⟨W.heap.size + 1, 0, none⟩) 16 cap) w' ∧
    RdB w' (some ⟨W.heap.size + 1, 0, none⟩) 16 cap ([0, 1, 0, 1] ++ List.replicate 12 0) ∧ Below W.heap.size W w' := by
  obtain ⟨i0, hi0, hz0', hz1', hz2'⟩ := u8_parts
  have hk : 16 ≤ 140737488355328 := by omega
  have h := Lib.run_append_grow_zeros (P := Try.prog) (W.alloc (.cells #[.int .u8 0, .int .u8 1, .int .u8 0, .int .u8 1] 5)) 22 3 22 5 i0 (.int .u8 0) .i64 .i64 Try.underlying22 Try.underlying3 hi0 hz0' (some ⟨W.heap.size, 0, none⟩) 4 4 [.int .u8 0, .int .u8 1, .int .u8 0, .int .u8 1]
    (by
      rw [hz1']
      have hc : ∀ j v, ([.int .u8 0, .int .u8 1, .int .u8 0, .int .u8 1] : List Value)[j]? = some v → (W.alloc (.cells #[.int .u8 0, .int .u8 1, .int .u8 0, .int .u8 1] 5)).drew.cell? ((⟨W.heap.size, 0, none⟩ : Addr).add j) = some v := by
        intro j v hv
        have e : (⟨W.heap.size, 0, none⟩ : Addr).add j = ⟨W.heap.size, j, none⟩ := by
          unfold Addr.add
          by_cases h0 : j = 0 <;> simp [h0]
        rw [e]
        have h1 : (W.alloc (.cells #[.int .u8 0, .int .u8 1, .int .u8 0, .int .u8 1] 5)).drew.heap[W.heap.size]? = some (.cells #[.int .u8 0, .int .u8 1, .int .u8 0, .int .u8 1] 5) := heap_new_o' (w := W) rfl
        rw [cell_of_row _ _ j _ _ _ h1]
        simpa using hv
      have := run_loadCells_list (P := Try.prog) (w := (W.alloc (.cells #[.int .u8 0, .int .u8 1, .int .u8 0, .int .u8 1] 5)).drew) ⟨W.heap.size, 0, none⟩ [.int .u8 0, .int .u8 1, .int .u8 0, .int .u8 1] hc
      simpa [Builtin.firstCells] using this)
    12 (by omega) (by omega) (by omega) (by omega) (by omega) (by rw [hz2']; decide)
  have hz : grownCap (W.alloc (.cells #[.int .u8 0, .int .u8 1, .int .u8 0, .int .u8 1] 5)) 16 4 5 ≤ maxLen := grownCap_le_maxLen _ 16 4 5 (Nat.le_trans hk pow47)
  have hge : 16 ≤ grownCap (W.alloc (.cells #[.int .u8 0, .int .u8 1, .int .u8 0, .int .u8 1] 5)) 16 4 5 := grownCap_ge _ 16 4 5
  rw [size_alloc_] at h
  refine ⟨_, _, h, ?_, ?_⟩
  · refine RdB.lit (heap_new_o' (by show _ = (W.alloc _).heap.size; rw [size_alloc_])) (by simp) ?_ hge hz
    simp only [Array.toList_append, toList_zeroCells1, Value.cells]
    rfl
  · exact (((Below.refl _ _).alloc (Nat.le_refl _) _).drew).alloc (by show _ ≤ (W.alloc _).heap.size; rw [size_alloc_]; omega) _

set_option maxRecDepth 100000 in
set_option maxHeartbeats 3200000 in
theorem limits_walk (x y : Int) (w : World) :
    Calls Try.prog 6 #[.int .i64 x, .int .i64 y] w fun e w' => e = .returned (.bool true) ∧ Below w.heap.size w w' := by
  have hA := Lib.hid (awake_law w)
  obtain ⟨K, hK0, hK1, hR1⟩ := round_lit x 3 (by omega) (by omega)
  obtain ⟨Q, hQ0, hQ1, hR2⟩ := round_lit y 4 (by omega) (by omega)
  obtain ⟨i0, hi0, hz0', hz1', hz2'⟩ := u8_parts
  have hK : K = 0 ∨ K = 1 ∨ K = 2 := by omega
  have hQ : Q = 0 ∨ Q = 1 ∨ Q = 2 ∨ Q = 3 := by omega
  clear hK0 hK1 hQ0 hQ1
  have HR1 := Lib.hid hR1
  have HR2 := Lib.hid hR2
  clear hR1 hR2
  have i0' : ∀ W, (Instr.index 39 (.agg #[.int .i64 0, .int .i64 1, .int .i64 1073741824, .int .i64 1073741825]) (.int .i64 0)).run Try.prog W = .ok (.int .i64 0) W := fun _ => by kernel_rfl
  have i1' : ∀ W, (Instr.index 39 (.agg #[.int .i64 0, .int .i64 1, .int .i64 1073741824, .int .i64 1073741825]) (.int .i64 1)).run Try.prog W = .ok (.int .i64 1) W := fun _ => by kernel_rfl
  have i2' : ∀ W, (Instr.index 39 (.agg #[.int .i64 0, .int .i64 1, .int .i64 1073741824, .int .i64 1073741825]) (.int .i64 2)).run Try.prog W = .ok (.int .i64 1073741824) W := fun _ => by kernel_rfl
  have i3' : ∀ W, (Instr.index 39 (.agg #[.int .i64 0, .int .i64 1, .int .i64 1073741824, .int .i64 1073741825]) (.int .i64 3)).run Try.prog W = .ok (.int .i64 1073741825) W := fun _ => by kernel_rfl
  have m0 : ∀ W : World, (Instr.makeSlice 22 (.int .i64 65535) (.int .i64 65535)).run Try.prog W = .ok (.slice (some ⟨W.heap.size, 0, none⟩) 65535 65535) (W.alloc (.cells (madeCells #[.int .u8 0] 65535) 5)) := fun W : World => run_make_u8 (P := Try.prog) (t := 22) Try.underlying22 hi0 hz0' hz1' hz2' 65535 (by omega) W
  have m1 : ∀ W : World, (Instr.makeSlice 22 (.int .i64 65536) (.int .i64 65536)).run Try.prog W = .ok (.slice (some ⟨W.heap.size, 0, none⟩) 65536 65536) (W.alloc (.cells (madeCells #[.int .u8 0] 65536) 5)) := fun W : World => run_make_u8 (P := Try.prog) (t := 22) Try.underlying22 hi0 hz0' hz1' hz2' 65536 (by omega) W
  have m2 : ∀ W : World, (Instr.makeSlice 22 (.int .i64 65537) (.int .i64 65537)).run Try.prog W = .ok (.slice (some ⟨W.heap.size, 0, none⟩) 65537 65537) (W.alloc (.cells (madeCells #[.int .u8 0] 65537) 5)) := fun W : World => run_make_u8 (P := Try.prog) (t := 22) Try.underlying22 hi0 hz0' hz1' hz2' 65537 (by omega) W
  rcases hK with rfl | rfl | rfl
  all_goals
    rcases hQ with rfl | rfl | rfl | rfl
    all_goals
      go_enter Try.func6, Try.ntmps6
      go_wp2_with (first
        | (go_at_call 17; (with_reducible refine (HR1.out _).mono ?_); rintro e W1 ⟨rfl, rfl⟩)
        | (go_at_call 17; (with_reducible refine (HR2.out _).mono ?_); rintro e W1 ⟨rfl, rfl⟩)
        | (go_at_call 12; (with_reducible refine (frame_zeros _ 65535 _ _ (OwB.zeros (base := w.heap.size) (Nat.le_refl _) ?_).rd ?_).mono ?_); (focus (unfold maxLen; omega)); (focus omega); rintro e w1 ⟨v1, rfl, ⟨A1, c1, rfl⟩, hb1⟩)
        | (go_at_call 12; (with_reducible refine (frame_zeros _ 65536 _ _ (OwB.zeros (base := w.heap.size) (Nat.le_refl _) ?_).rd ?_).mono ?_); (focus (unfold maxLen; omega)); (focus omega); rintro e w1 ⟨v1, rfl, ⟨A1, c1, rfl⟩, hb1⟩)
        | (go_at_call 12; (with_reducible refine (frame_zeros_no _ 65537 _ _ ?_).mono ?_); (focus omega); rintro e w1 ⟨v1, rfl, ⟨A1, n1, c1, rfl⟩, hb1⟩)
        | (go_at_call 12; (with_reducible refine (frame_nil 0 2 _ rfl).mono ?_); rintro e w2 ⟨v2, rfl, ⟨A2, n2, c2, rfl⟩, hb2⟩)
        | (go_at_call 12; (with_reducible refine (frame_nil 1 0 _ rfl).mono ?_); rintro e w2 ⟨v2, rfl, ⟨A2, n2, c2, rfl⟩, hb2⟩)
        | (go_at_call 12; (with_reducible refine (frame_nil 1073741824 0 _ rfl).mono ?_); rintro e w2 ⟨v2, rfl, ⟨A2, n2, c2, rfl⟩, hb2⟩)
        | (go_at_call 12; (with_reducible refine (frame_nil 1073741825 2 _ rfl).mono ?_); rintro e w2 ⟨v2, rfl, ⟨A2, n2, c2, rfl⟩, hb2⟩)
        | (at_builtin; obtain ⟨cp, w3, hrun, hr3, hb3⟩ := append_lit w2; refine Lib.wpList_append_run _ rfl (.tmp 68) (.const (.int .i64 12)) _ _ rfl _ _ rfl rfl _ _ hrun ?_)
        | (go_at_call 18; (refine (next_big _ cp _ hr3).mono ?_); rintro e w4 ⟨v4, rfl, ⟨A4, n4, c4, rfl⟩, hb4⟩)
        | (go_at_call 11; refine (hA.out _ ?_).mono ?_; (refine bel_out ?_; (focus (repeat' first | (with_reducible refine bel_refl ?_) | with_reducible assumption | with_reducible refine bel_drew ?_ | with_reducible refine bel_drewN _ ?_ | with_reducible refine bel_alloc _ ?_ | with_reducible refine bel_set ?_ _ ?_ | (with_reducible apply bel_call; with_reducible assumption) | (with_reducible apply bel_owg; with_reducible assumption; (focus omega)) | with_reducible exact Nat.le_refl _ | omega | (simp; done) | (simp; omega)))); rintro e w5 ⟨rfl, hb5⟩))
      go_ret
      exact ⟨rfl, by (refine bel_out ?_; (focus (repeat' first | (with_reducible refine bel_refl ?_) | with_reducible assumption | with_reducible refine bel_drew ?_ | with_reducible refine bel_drewN _ ?_ | with_reducible refine bel_alloc _ ?_ | with_reducible refine bel_set ?_ _ ?_ | (with_reducible apply bel_call; with_reducible assumption) | (with_reducible apply bel_owg; with_reducible assumption; (focus omega)) | with_reducible exact Nat.le_refl _ | omega | (simp; done) | (simp; omega))))⟩

end Go.Proofs.Ytaagmiidapammaa
