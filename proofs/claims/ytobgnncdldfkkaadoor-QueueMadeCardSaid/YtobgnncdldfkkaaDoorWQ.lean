/- From readings of jobs and of queues to the words of the walks. -/
import Derived.Test.YtobgnncdldfkkaaDoorW4Z
import Derived.Test.YtobgnncdldfkkaaDoorQV
import Derived.Deep.Slices
import Derived.Deep.Strs
namespace Go.Proofs.YtobgnncdldfkkaaDoor
open Go.ChangeShapes Go.WideShapes Go.ChangeAt Go.RowKit Go.Deep
open Go.ChangeMaps (open_string shut_string)
set_option linter.unusedSimpArgs false
set_option linter.unusedVariables false

section
variable {H : Type} {enc : TypeId × Value → H} {W : World} {base : Nat} {held : Bool} {d : DataW H} {p : List MemPlace} {r : Reach} {b0 : Nat} {v : Value}
theorem job_cells {fuel : Nat} {cs : List Value} {x : DataW H × List MemPlace} (h : DataW.trod enc Tryd.prog W base (fun _ => true) held fuel 28 cs = some x) : ∃ a : Jb, cs = a.cells ∧ JWf a := by
  obtain ⟨y0, y1, y2, n, _, hl, t0, t1, t2⟩ := trod_struct3 Tryd.underlying28 h
  rw [cells_job] at hl
  match cs, hl with
  | [q0, q1, q2, q3], _ =>
    simp only [cells_int, cells_string, cells_title, List.take_succ_cons, List.take_zero, List.drop_succ_cons, List.drop_zero] at t0 t1 t2
    obtain ⟨k, e1, _, w1⟩ := DataW.trod_int Tryd.underlying3 t0
    obtain ⟨s, e2, _, w2⟩ := DataW.trod_string Tryd.underlying9 t1
    obtain ⟨z0, z1, nn, _, _, t3, t4⟩ := trod_struct2 Tryd.underlying26 t2
    simp only [cells_int, cells_string, List.take_succ_cons, List.take_zero, List.drop_succ_cons, List.drop_zero] at t3 t4
    obtain ⟨k2, e3, _, w3⟩ := DataW.trod_int Tryd.underlying3 t3
    obtain ⟨s2, e4, _, w4⟩ := DataW.trod_string Tryd.underlying9 t4
    injection e1 with e1 _
    injection e2 with e2 _
    injection e3 with e3 _
    injection e4 with e4 _
    subst e1 e2 e3 e4
    exact ⟨⟨k, s, k2, s2⟩, rfl, w1, w2, w3, w4⟩
theorem open_job (hv : Value.okWide Tryd.prog W r b0 28 v) (h : DataW.Trod enc Tryd.prog W base (fun _ => true) held 28 v d p) : ∃ a : Jb, v = a.val ∧ JWf a := by
  obtain ⟨cs, rfl, hsz⟩ := okWide_struct Tryd.underlying28 hv
  obtain ⟨fuel, hf⟩ := h
  obtain ⟨a, h1, h2⟩ := job_cells hf
  refine ⟨a, ?_, h2⟩
  have : cs = a.cells.toArray := by
    apply Array.toList_inj.1
    simpa [Value.cells] using h1
  rw [this]
  rfl
theorem jcells_get {L : List Jb} {k i : Nat} (hk : k < L.length) (hi : i < 4) : (jcells L)[k * 4 + i]? = (L.getD k jb0).cells[i]? := by
  have h1 := jcells_drop k L
  have h2 : L.drop k = L.getD k jb0 :: L.drop (k + 1) := by
    rw [List.drop_eq_getElem_cons hk]
    simp [List.getD, List.getElem?_eq_getElem hk]
  rw [← List.getElem?_drop, h1, h2]
  show ((L.getD k jb0).cells ++ jcells (L.drop (k + 1)))[i]? = _
  rw [List.getElem?_append_left (by show i < 4; exact hi)]
theorem open_jobs_cell {fuel : Nat} {x : DataW H × List MemPlace} (h : DataW.trod enc Tryd.prog W base (fun _ => true) held fuel 22 [v] = some x) : ∃ A n c L, v = .slice A n c ∧ RdR RJ 4 W A n c L ∧ ∀ a ∈ L, JWf a := by
  rcases open_slice Tryd.underlying22 h with ⟨hcs, _⟩ | ⟨a, len, cap, m, n, D, Pl, hcs, _, hl, hm, hmm, _, hi⟩
  · injection hcs with hcs _
    exact ⟨none, 0, 0, [], hcs, RdR.nil _ _ _, by simp⟩
  · injection hcs with hcs _
    simp at hmm
    subst hmm
    have hrow : ∀ i, i < m → ∃ x : Jb, (∀ k, k < 4 → W.cell? ((a.add (i * 4)).add k) = x.cells[k]?) ∧ JWf x := by
      intro i him
      obtain ⟨cs', h1, h2⟩ := hi i him
      rw [cells_job] at h1
      obtain ⟨_, hlen, hcell⟩ := World.cells?_some h1
      obtain ⟨x, e1, e2⟩ := job_cells h2
      refine ⟨x, fun k hk => ?_, e2⟩
      have := hcell k (by omega)
      rw [this, ← e1, List.getElem?_eq_getElem (by omega)]
    refine ⟨some a, len, m, (List.range len).map (fun i => if h : i < m then (hrow i h).choose else jb0), hcs, RdJ.of_vals (by simp) hl hm ⟨by rw [jcells_length]; simp, fun h0 => ⟨a, rfl, ?_, fun j u hu => ?_⟩⟩, fun y hy => ?_⟩
    · obtain ⟨x, g1, _⟩ := hrow 0 (by omega)
      have := World.block_lt_of_cell? W _ (g1 0 (by omega))
      simpa [Addr.add] using this
    · have hj : j < len * 4 := by
        have := (List.getElem?_eq_some_iff.1 hu).1
        rw [jcells_length] at this
        simpa using this
      have hjk : j = (j / 4) * 4 + j % 4 := by omega
      have hk : j / 4 < len := by omega
      rw [hjk, jcells_get (by simpa using hk) (by omega)] at hu
      have hg : ((List.range len).map (fun i => if h : i < m then (hrow i h).choose else jb0)).getD (j / 4) jb0 = (hrow (j / 4) (by omega)).choose := by
        simp only [List.getD, List.getElem?_map, List.getElem?_range hk, Option.map_some, Option.getD_some]
        rw [dif_pos (by omega)]
      rw [hg] at hu
      have h5 := (hrow (j / 4) (by omega)).choose_spec.1 (j % 4) (by omega)
      rw [add_of_add, ← hjk] at h5
      exact h5.trans hu
    · obtain ⟨i, hi1, rfl⟩ := List.mem_map.1 hy
      have := List.mem_range.1 hi1
      rw [dif_pos (by omega)]
      exact (hrow i (by omega)).choose_spec.2
theorem open_queue (hv : Value.okWide Tryd.prog W r b0 24 v) (h : DataW.Trod enc Tryd.prog W base (fun _ => true) held 24 v d p) : ∃ A n c L B m d2 M, v = .agg #[.slice A n c, .slice B m d2] ∧ RdR RJ 4 W A n c L ∧ RdR RJ 4 W B m d2 M ∧ ∀ a ∈ L, JWf a := by
  obtain ⟨c0, c1, y0, y1, m, rfl, rfl, rfl, hy0, hy1⟩ := Joins.open_agg2 Tryd.underlying24 (by kernel_rfl) (by kernel_rfl) hv h
  obtain ⟨A, n, c, L, rfl, h1, h2⟩ := open_jobs_cell hy0
  obtain ⟨B, m2, d2, M, rfl, h3, h4⟩ := open_jobs_cell hy1
  exact ⟨A, n, c, L, B, m2, d2, M, rfl, h1, h3, h2⟩
end
end Go.Proofs.YtobgnncdldfkkaaDoor
