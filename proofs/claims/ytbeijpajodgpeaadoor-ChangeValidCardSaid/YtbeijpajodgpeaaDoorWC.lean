/- From readings of changes and of lists of changes to the words of the walks. -/
import Derived.Test.YtbeijpajodgpeaaDoorW4Z
import Derived.Test.YtbeijpajodgpeaaDoorC2
import Derived.Test.YtbeijpajodgpeaaDoorCR
import Derived.Deep.Slices
import Derived.Deep.Strs
namespace Go.Proofs.YtbeijpajodgpeaaDoor
open Go.ChangeShapes Go.WideShapes Go.ChangeAt Go.RowKit Go.Deep
open Go.ChangeMaps (open_string shut_string)
set_option linter.unusedSimpArgs false
set_option linter.unusedVariables false

theorem cells_rev : Tryd.prog.cellsOf 67 = 6 := by kernel_rfl
theorem cells_chg : Tryd.prog.cellsOf 31 = 10 := by kernel_rfl
theorem cells_ttl : Tryd.prog.cellsOf 28 = 2 := by kernel_rfl
theorem cells_i64 : Tryd.prog.cellsOf 3 = 1 := by kernel_rfl
theorem cells_str : Tryd.prog.cellsOf 9 = 1 := by kernel_rfl
theorem cells_revs : Tryd.prog.cellsOf 29 = 1 := by kernel_rfl

theorem Fits.snoc {α : Type} {R : World → α → List Value → Prop} {sz : Nat} {w : World} {L : List α} {xs cs : List Value} {a : α} (h : Fits R sz w L xs) (hl : xs.length = L.length * sz) (hc : cs.length = sz) (hR : R w a cs) : Fits R sz w (L ++ [a]) (xs ++ cs) := by
  intro k b hk
  rcases Nat.lt_or_ge k L.length with hlt | hge
  · rw [List.getElem?_append_left hlt] at hk
    have h6 := Nat.mul_le_mul_right sz (show k + 1 ≤ L.length by omega)
    rw [Nat.add_mul, Nat.one_mul] at h6
    rw [List.drop_append_of_le_length (by omega), List.take_append_of_le_length (by rw [List.length_drop]; omega)]
    exact h k b hk
  · rw [List.getElem?_append_right hge] at hk
    have hk0 : k - L.length = 0 := by
      rcases Nat.eq_zero_or_pos (k - L.length) with h0 | h0
      · exact h0
      · rw [List.getElem?_eq_none (show [a].length ≤ _ from h0)] at hk; cases hk
    rw [hk0] at hk
    have e : k = L.length := by omega
    subst e
    injection hk with hk
    subst hk
    rw [← hl, List.drop_left, List.take_of_length_le (by omega)]
    exact hR
/-- a row whose elements are known one by one -/
theorem open_row {α : Type} {R : World → α → List Value → Prop} {Q : α → Prop} {sz len m : Nat} {W : World} {a : Addr} (hsz : 0 < sz) (hl : len ≤ m) (hm : m ≤ maxLen)
    (h : ∀ i, i < m → ∃ (x : α) (cs : List Value), cs.length = sz ∧ (∀ k v, cs[k]? = some v → W.cell? ((a.add (i * sz)).add k) = some v) ∧ R W x cs ∧ Q x) : ∃ L, RdR R sz W (some a) len m L ∧ ∀ x ∈ L, Q x := by
  have key : ∀ k, k ≤ len → ∃ (L : List α) (xs : List Value), L.length = k ∧ xs.length = k * sz ∧ (∀ j u, xs[j]? = some u → W.cell? (a.add j) = some u) ∧ Fits R sz W L xs ∧ ∀ x ∈ L, Q x := by
    intro k
    induction k with
    | zero => intro _; exact ⟨[], [], rfl, by simp, fun j u hu => by simp at hu, fun i x hx => by simp at hx, by simp⟩
    | succ k ih =>
      intro hk
      obtain ⟨L, xs, h1, h2, h3, h4, h5⟩ := ih (by omega)
      obtain ⟨x, cs, g1, g2, g3, g4⟩ := h k (by omega)
      refine ⟨L ++ [x], xs ++ cs, by rw [List.length_append, h1]; rfl, by rw [List.length_append, h2, g1, Nat.add_mul, Nat.one_mul], fun j u hu => ?_, Fits.snoc h4 (by rw [h2, h1]) g1 g3, fun y hy => ?_⟩
      · rcases Nat.lt_or_ge j xs.length with hj | hj
        · rw [List.getElem?_append_left hj] at hu; exact h3 j u hu
        · rw [List.getElem?_append_right hj] at hu
          have := g2 _ u hu
          rw [add_of_add] at this
          rw [show k * sz + (j - xs.length) = j by omega] at this
          exact this
      · rcases List.mem_append.1 hy with hy | hy
        · exact h5 y hy
        · simp only [List.mem_singleton] at hy; subst hy; exact g4
  obtain ⟨L, xs, h1, h2, h3, h4, h5⟩ := key len (Nat.le_refl _)
  refine ⟨L, ⟨h1.symm, hl, hm, xs, ⟨h2, fun h0 => ⟨a, rfl, ?_, h3⟩⟩, h4⟩, h5⟩
  have hx : 0 < xs.length := by
    rw [h2]
    exact Nat.mul_pos h0 hsz
  have := World.block_lt_of_cell? W _ (h3 0 _ (List.getElem?_eq_getElem hx))
  simpa [Addr.add] using this

section
variable {H : Type} {enc : TypeId × Value → H} {P : Program} {W : World} {base : Nat} {held : Bool} {d : DataW H} {p : List MemPlace} {r : Reach} {b0 : Nat} {v : Value}
theorem trod_struct6 {t : TypeId} {f0 f1 f2 f3 f4 f5 : Field} {fuel : Nat} {cs : List Value} {x : DataW H × List MemPlace} (ht : P.underlying t = some (.struct #[f0, f1, f2, f3, f4, f5])) (h : DataW.trod enc P W base (fun _ => true) held fuel t cs = some x) :
    ∃ y0 y1 y2 y3 y4 y5 n, cs.length = P.cellsOf t ∧ DataW.trod enc P W base (fun _ => true) held n f0.type ((cs.drop f0.offset).take (P.cellsOf f0.type)) = some y0 ∧
      DataW.trod enc P W base (fun _ => true) held n f1.type ((cs.drop f1.offset).take (P.cellsOf f1.type)) = some y1 ∧ DataW.trod enc P W base (fun _ => true) held n f2.type ((cs.drop f2.offset).take (P.cellsOf f2.type)) = some y2 ∧ DataW.trod enc P W base (fun _ => true) held n f3.type ((cs.drop f3.offset).take (P.cellsOf f3.type)) = some y3 ∧ DataW.trod enc P W base (fun _ => true) held n f4.type ((cs.drop f4.offset).take (P.cellsOf f4.type)) = some y4 ∧ DataW.trod enc P W base (fun _ => true) held n f5.type ((cs.drop f5.offset).take (P.cellsOf f5.type)) = some y5 := by
  obtain ⟨xs, n, _, rfl, hl, hlen, hf⟩ := DataW.trod_struct ht h
  match xs, hlen with
  | [y0, y1, y2, y3, y4, y5], _ => exact ⟨y0, y1, y2, y3, y4, y5, n, hl, by simpa using hf 0 f0 rfl, by simpa using hf 1 f1 rfl, by simpa using hf 2 f2 rfl, by simpa using hf 3 f3 rfl, by simpa using hf 4 f4 rfl, by simpa using hf 5 f5 rfl⟩
theorem trod_struct8 {t : TypeId} {f0 f1 f2 f3 f4 f5 f6 f7 : Field} {fuel : Nat} {cs : List Value} {x : DataW H × List MemPlace} (ht : P.underlying t = some (.struct #[f0, f1, f2, f3, f4, f5, f6, f7])) (h : DataW.trod enc P W base (fun _ => true) held fuel t cs = some x) :
    ∃ y0 y1 y2 y3 y4 y5 y6 y7 n, cs.length = P.cellsOf t ∧ DataW.trod enc P W base (fun _ => true) held n f0.type ((cs.drop f0.offset).take (P.cellsOf f0.type)) = some y0 ∧
      DataW.trod enc P W base (fun _ => true) held n f1.type ((cs.drop f1.offset).take (P.cellsOf f1.type)) = some y1 ∧ DataW.trod enc P W base (fun _ => true) held n f2.type ((cs.drop f2.offset).take (P.cellsOf f2.type)) = some y2 ∧ DataW.trod enc P W base (fun _ => true) held n f3.type ((cs.drop f3.offset).take (P.cellsOf f3.type)) = some y3 ∧ DataW.trod enc P W base (fun _ => true) held n f4.type ((cs.drop f4.offset).take (P.cellsOf f4.type)) = some y4 ∧ DataW.trod enc P W base (fun _ => true) held n f5.type ((cs.drop f5.offset).take (P.cellsOf f5.type)) = some y5 ∧ DataW.trod enc P W base (fun _ => true) held n f6.type ((cs.drop f6.offset).take (P.cellsOf f6.type)) = some y6 ∧ DataW.trod enc P W base (fun _ => true) held n f7.type ((cs.drop f7.offset).take (P.cellsOf f7.type)) = some y7 := by
  obtain ⟨xs, n, _, rfl, hl, hlen, hf⟩ := DataW.trod_struct ht h
  match xs, hlen with
  | [y0, y1, y2, y3, y4, y5, y6, y7], _ => exact ⟨y0, y1, y2, y3, y4, y5, y6, y7, n, hl, by simpa using hf 0 f0 rfl, by simpa using hf 1 f1 rfl, by simpa using hf 2 f2 rfl, by simpa using hf 3 f3 rfl, by simpa using hf 4 f4 rfl, by simpa using hf 5 f5 rfl, by simpa using hf 6 f6 rfl, by simpa using hf 7 f7 rfl⟩
set_option maxRecDepth 100000 in
theorem title_cells {fuel : Nat} {q0 q1 : Value} {x : DataW H × List MemPlace} (h : DataW.trod enc Tryd.prog W base (fun _ => true) held fuel 28 [q0, q1] = some x) : ∃ (k : Int) (s : ByteArray), q0 = .int .i64 k ∧ q1 = .string s ∧ Lit.wf (.int .i64 k) = true ∧ s.size ≤ maxLen := by
  obtain ⟨z0, z1, nn, _, _, t3, t4⟩ := trod_struct2 Tryd.underlying28 h
  simp only [cells_i64, cells_str, List.take_succ_cons, List.take_zero, List.drop_succ_cons, List.drop_zero] at t3 t4
  obtain ⟨k, e3, _, w3⟩ := DataW.trod_int Tryd.underlying3 t3
  obtain ⟨s, e4, _, w4⟩ := DataW.trod_string Tryd.underlying9 t4
  injection e3 with e3 _
  injection e4 with e4 _
  exact ⟨k, s, e3, e4, w3, w4⟩
set_option maxRecDepth 100000 in
theorem rev_cells {fuel : Nat} {cs : List Value} {x : DataW H × List MemPlace} (h : DataW.trod enc Tryd.prog W base (fun _ => true) held fuel 67 cs = some x) : ∃ a : Rv, cs = a.cells ∧ RvWf a := by
  obtain ⟨y0, y1, y2, y3, y4, y5, n, hl, t0, t1, t2, t3, t4, t5⟩ := trod_struct6 Tryd.underlying67 h
  rw [cells_rev] at hl
  match cs, hl with
  | [q0, q1, q2, q3, q4, q5], _ =>
    simp only [cells_i64, cells_str, List.take_succ_cons, List.take_zero, List.drop_succ_cons, List.drop_zero] at t0 t1 t2 t3 t4 t5
    obtain ⟨k0, e0, _, w0⟩ := DataW.trod_int Tryd.underlying3 t0
    obtain ⟨s1, e1, _, w1⟩ := DataW.trod_string Tryd.underlying9 t1
    obtain ⟨s2, e2, _, w2⟩ := DataW.trod_string Tryd.underlying9 t2
    obtain ⟨s3, e3, _, w3⟩ := DataW.trod_string Tryd.underlying9 t3
    obtain ⟨k4, e4, _, w4⟩ := DataW.trod_int Tryd.underlying3 t4
    obtain ⟨k5, e5, _, w5⟩ := DataW.trod_int Tryd.underlying3 t5
    injection e0 with e0 _
    injection e1 with e1 _
    injection e2 with e2 _
    injection e3 with e3 _
    injection e4 with e4 _
    injection e5 with e5 _
    subst e0 e1 e2 e3 e4 e5
    exact ⟨⟨k0, s1, s2, s3, k4, k5⟩, rfl, w0, w1, w2, w3, w4, w5⟩
set_option maxRecDepth 100000 in
theorem open_revs_cell {fuel : Nat} {x : DataW H × List MemPlace} (h : DataW.trod enc Tryd.prog W base (fun _ => true) held fuel 29 [v] = some x) : ∃ A n c L, v = .slice A n c ∧ RdR RV 6 W A n c L ∧ ∀ a ∈ L, RvWf a := by
  rcases open_slice Tryd.underlying29 h with ⟨hcs, _⟩ | ⟨a, len, cap, m, n, D, Pl, hcs, _, hl, hm, hmm, _, hi⟩
  · injection hcs with hcs _
    exact ⟨none, 0, 0, [], hcs, RdR.nil _ _ _, by simp⟩
  · injection hcs with hcs _
    simp at hmm
    subst hmm
    obtain ⟨L, h1, h2⟩ := open_row (R := RV) (Q := RvWf) (sz := 6) (W := W) (a := a) (by omega) hl hm (fun i him => by
      obtain ⟨cs', h1, h2⟩ := hi i him
      rw [cells_rev] at h1
      obtain ⟨_, hlen, hcell⟩ := World.cells?_some h1
      obtain ⟨x, e1, e2⟩ := rev_cells h2
      refine ⟨x, cs', hlen, fun k u hu => ?_, e1, e2⟩
      have hk := (List.getElem?_eq_some_iff.1 hu).1
      have := hcell k (by omega)
      rw [List.getElem?_eq_getElem hk] at hu
      injection hu with hu
      rw [this, ← hu]
      exact List.getElem?_eq_getElem hk)
    exact ⟨some a, len, m, L, hcs, h1, h2⟩
set_option maxRecDepth 100000 in
theorem cg_cells {fuel : Nat} {cs : List Value} {x : DataW H × List MemPlace} (h : DataW.trod enc Tryd.prog W base (fun _ => true) held fuel 31 cs = some x) : ∃ (a : Cg) (A : Option Addr) (n cp : Nat), cs = a.cells A n cp ∧ RdR RV 6 W A n cp a.hs ∧ CgWf a := by
  obtain ⟨y0, y1, y2, y3, y4, y5, y6, y7, n, hl, t0, t1, t2, t3, t4, t5, t6, t7⟩ := trod_struct8 Tryd.underlying31 h
  rw [cells_chg] at hl
  match cs, hl with
  | [q0, q1, q2, q3, q4, q5, q6, q7, q8, q9], _ =>
    simp only [cells_i64, cells_str, cells_ttl, cells_revs, List.take_succ_cons, List.take_zero, List.drop_succ_cons, List.drop_zero] at t0 t1 t2 t3 t4 t5 t6 t7
    obtain ⟨k0, e0, _, w0⟩ := DataW.trod_int Tryd.underlying3 t0
    obtain ⟨s1, e1, _, w1⟩ := DataW.trod_string Tryd.underlying9 t1
    obtain ⟨s2, e2, _, w2⟩ := DataW.trod_string Tryd.underlying9 t2
    obtain ⟨k3, s3, e3, e4, w3, w4⟩ := title_cells t3
    obtain ⟨k5, s5, e5, e6, w5, w6⟩ := title_cells t4
    obtain ⟨s7, e7, _, w7⟩ := DataW.trod_string Tryd.underlying9 t5
    obtain ⟨k8, e8, _, w8⟩ := DataW.trod_int Tryd.underlying3 t6
    obtain ⟨A, n, c, L, e9, hr, hw⟩ := open_revs_cell t7
    injection e0 with e0 _
    injection e1 with e1 _
    injection e2 with e2 _
    injection e7 with e7 _
    injection e8 with e8 _
    subst e0 e1 e2 e3 e4 e5 e6 e7 e8 e9
    exact ⟨⟨k0, s1, s2, k3, s3, k5, s5, s7, k8, L⟩, A, n, c, rfl, hr, w0, w1, w2, w3, w4, w5, w6, w7, w8, hw⟩
set_option maxRecDepth 100000 in
theorem open_change (hv : Value.okWide Tryd.prog W r b0 31 v) (h : DataW.Trod enc Tryd.prog W base (fun _ => true) held 31 v d p) : ∃ (a : Cg) (A : Option Addr) (n cp : Nat), v = cval a A n cp ∧ RdR RV 6 W A n cp a.hs ∧ CgWf a := by
  obtain ⟨cs, rfl, hsz⟩ := okWide_struct Tryd.underlying31 hv
  obtain ⟨fuel, hf⟩ := h
  obtain ⟨a, A, n, cp, h1, h2, h3⟩ := cg_cells hf
  refine ⟨a, A, n, cp, ?_, h2, h3⟩
  have : cs = (a.cells A n cp).toArray := by
    apply Array.toList_inj.1
    simpa [Value.cells] using h1
  rw [this]
  rfl
set_option maxRecDepth 100000 in
theorem open_changes (hv : Value.okWide Tryd.prog W r b0 23 v) (h : DataW.Trod enc Tryd.prog W base (fun _ => true) held 23 v d p) : ∃ A n c L, v = .slice A n c ∧ RdR RC 10 W A n c L ∧ ∀ a ∈ L, CgWf a := by
  obtain ⟨a, len, cap, rfl⟩ := okWide_slice Tryd.underlying23 hv
  obtain ⟨fuel, hf⟩ := h
  rcases open_slice Tryd.underlying23 hf with ⟨hcs, _⟩ | ⟨a, len, cap, m, n, D, Pl, hcs, _, hl, hm, hmm, _, hi⟩
  · simp [Value.cells] at hcs
    obtain ⟨rfl, rfl, rfl⟩ := hcs
    exact ⟨none, 0, 0, [], rfl, RdR.nil _ _ _, by simp⟩
  · simp [Value.cells] at hcs
    obtain ⟨rfl, rfl, rfl⟩ := hcs
    simp at hmm
    subst hmm
    obtain ⟨L, h1, h2⟩ := open_row (R := RC) (Q := CgWf) (sz := 10) (W := W) (a := a) (by omega) hl hm (fun i him => by
      obtain ⟨cs', h1, h2⟩ := hi i him
      rw [cells_chg] at h1
      obtain ⟨_, hlen, hcell⟩ := World.cells?_some h1
      obtain ⟨x, A, n, cp, e1, e2, e3⟩ := cg_cells h2
      refine ⟨x, cs', hlen, fun k u hu => ?_, ⟨A, n, cp, e1, e2⟩, e3⟩
      have hk := (List.getElem?_eq_some_iff.1 hu).1
      have := hcell k (by omega)
      rw [List.getElem?_eq_getElem hk] at hu
      injection hu with hu
      rw [this, ← hu]
      exact List.getElem?_eq_getElem hk)
    exact ⟨some a, len, m, L, rfl, h1, h2⟩
end
end Go.Proofs.YtbeijpajodgpeaaDoor
