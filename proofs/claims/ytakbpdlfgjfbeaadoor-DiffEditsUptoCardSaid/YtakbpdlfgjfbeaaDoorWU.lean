/- From readings of edits to the words of the walks, with the bound that '..Upto' gives. -/
import Derived.Test.YtakbpdlfgjfbeaaDoorWE
import Derived.Test.YtakbpdlfgjfbeaaDoorDP6
import Derived.Test.YtakbpdlfgjfbeaaDoorRows
namespace Go.Proofs.YtakbpdlfgjfbeaaDoor
open Go.ChangeShapes Go.WideShapes Go.ChangeAt Go.RowKit Go.Deep
open Go.ChangeMaps (open_string shut_string)
set_option linter.unusedSimpArgs false
set_option linter.unusedVariables false

theorem bulk_append {H : Type} (l r : List (DataW H)) : Rows.uptoBulkAll (l ++ r) = Rows.uptoBulkAll l + Rows.uptoBulkAll r := by
  induction l with
  | nil => simp [Rows.uptoBulkAll]
  | cons x l ih => simp only [List.cons_append, Rows.uptoBulkAll, ih]; omega
theorem bulk_strs {H : Type} (L : List ByteArray) : (cat L).size ≤ Rows.uptoBulkAll (H := H) (strs L) := by
  induction L with
  | nil => exact Nat.zero_le _
  | cons x r ih =>
    have h1 : (cat (x :: r)).size = x.size + (cat r).size := by
      rw [show x :: r = [x] ++ r from rfl, cat_size_append]
      congr 1
    have h2 : strs (H := H) (x :: r) = .lit (.string x.data.toList) :: strs r := by simp [strs]
    rw [h1, h2]
    simp only [Rows.uptoBulkAll, Rows.uptoBulk]
    have h3 : x.data.toList.length = x.size := by rw [Array.length_toList]; rfl
    omega
section
variable {H : Type} {enc : TypeId × Value → H} {P : Program} {W : World} {base : Nat} {held : Bool} {v : Value} {t e : TypeId}
theorem open_strings_bulk {fuel : Nat} {x : DataW H × List MemPlace} (ht : P.underlying t = some (.slice e)) (he : P.underlying e = some .string) (hc : P.cellsOf e = 1)
    (h : DataW.trod enc P W base (fun _ => true) held fuel t [v] = some x) : ∃ A n c L, v = .slice A n c ∧ RdR RS 1 W A n c L ∧ (cat L).size ≤ Rows.uptoBulk x.1 := by
  rcases open_strings ht he hc h with ⟨hcs, _⟩ | ⟨a, len, cap, ss, hcs, _, hl, hm, hz, hx, hcell, _⟩
  · injection hcs with hcs _
    exact ⟨none, 0, 0, [], hcs, RdR.nil _ _ _, Nat.zero_le _⟩
  · injection hcs with hcs _
    have hz : ss.length = cap := by simpa using hz
    have hlen : (ss.take len).length = len := by simp; omega
    have hbk : (cat (ss.take len)).size ≤ Rows.uptoBulk x.1 := by
      rw [hx]
      have := bulk_strs (H := H) (ss.take len)
      simp only [Rows.uptoBulk]
      omega
    refine ⟨_, _, _, ss.take len, hcs, ⟨hlen.symm, hl, hm, (ss.take len).map Value.string, ⟨by rw [List.length_map, hlen]; omega, fun h0 => ⟨a, rfl, ?_, fun j u hu => ?_⟩⟩, fun k x hk => ?_⟩, hbk⟩
    · have := World.block_lt_of_cell? W _ (hcell 0 (by omega))
      simpa [Addr.add] using this
    · have hj : j < len := by
        rcases Nat.lt_or_ge j len with h1 | h1
        · exact h1
        · rw [List.getElem?_eq_none (by rw [List.length_map, hlen]; exact h1)] at hu; cases hu
      have hjz : j < ss.length := by omega
      rw [hcell j hjz]
      simp only [List.getElem?_map, List.getElem?_take, hj, if_true, List.getElem?_eq_getElem hjz, Option.map_some, Option.some.injEq] at hu
      rw [← hu, List.getD_eq_getElem?_getD, List.getElem?_eq_getElem hjz, Option.getD_some]
    · show _ = [Value.string x]
      have hkl : k < (ss.take len).length := by
        rcases Nat.lt_or_ge k (ss.take len).length with h1 | h1
        · exact h1
        · rw [List.getElem?_eq_none h1] at hk; cases hk
      rw [Nat.mul_one, List.drop_eq_getElem_cons (by rw [List.length_map]; exact hkl)]
      rw [List.getElem?_eq_getElem hkl] at hk
      have hk2 := Option.some.inj hk
      rw [List.getElem_take] at hk2
      simp [hk2]
end
set_option maxRecDepth 100000 in
theorem open_edits_bulk {H : Type} {enc : TypeId × Value → H} {W : World} {base : Nat} {held : Bool} {d : DataW H} {p : List MemPlace} {r : Reach} {b0 : Nat} {v : Value}
    (hv : Value.okWide Tryd.prog W r b0 27 v) (h : DataW.Trod enc Tryd.prog W base (fun _ => true) held 27 v d p) : ∃ A n c E, v = .slice A n c ∧ RdR RE 2 W A n c E ∧ (cat (dstE E)).size ≤ Rows.uptoBulk d := by
  obtain ⟨a, len, cap, rfl⟩ := okWide_slice Tryd.underlying27 hv
  obtain ⟨fuel, hf⟩ := h
  have hC : Tryd.prog.cellsOf 32 = 2 := by kernel_rfl
  have hC0 : Tryd.prog.cellsOf 3 = 1 := by kernel_rfl
  have hC1 : Tryd.prog.cellsOf 30 = 1 := by kernel_rfl
  rcases open_slice Tryd.underlying27 hf with ⟨hcs, _⟩ | ⟨a, len, cap, m, n, D, Pl, hcs, _, hl, hm, hmm, hxd, hi⟩
  · simp [Value.cells] at hcs
    obtain ⟨rfl, rfl, rfl⟩ := hcs
    exact ⟨none, 0, 0, [], rfl, RdR.nil _ _ _, Nat.zero_le _⟩
  · simp [Value.cells] at hcs
    obtain ⟨rfl, rfl, rfl⟩ := hcs
    simp at hmm
    subst hmm
    have hrow : ∀ i, i < m → ∃ (x : Ed) (A' : Option Addr) (n' c' : Nat), W.cell? (a.add (i * 2)) = some (.int .i64 x.1) ∧ W.cell? ((a.add (i * 2)).add 1) = some (.slice A' n' c') ∧ RdR RS 1 W A' n' c' x.2 ∧ (cat x.2).size ≤ Rows.uptoBulk (D i) := by
      intro i him
      obtain ⟨cs', h1, h2⟩ := hi i him
      rw [hC] at h1
      obtain ⟨_, hlen, hcell⟩ := World.cells?_some h1
      match cs', hlen with
      | [q0, q1], _ =>
        obtain ⟨y0, y1, nn, hx, _, t0, t1⟩ := trod_struct2 Tryd.underlying32 h2
        simp only [hC0, List.take_succ_cons, List.take_zero, List.drop_succ_cons, List.drop_zero] at t0 t1
        obtain ⟨k, e1, _⟩ := DataW.trod_int Tryd.underlying3 t0
        injection e1 with e1 _
        subst e1
        have t1' : DataW.trod enc Tryd.prog W base (fun _ => true) held nn 30 [q1] = some y1 := by simpa [hC1] using t1
        obtain ⟨A', n', c', L, rfl, hr, hbk⟩ := open_strings_bulk Tryd.underlying30 Tryd.underlying9 (by kernel_rfl) t1'
        have c0 := hcell 0 (by omega)
        have c1 := hcell 1 (by omega)
        have hDi : D i = .agg [y0.1, y1.1] := by injection hx
        exact ⟨(k, L), A', n', c', by simpa [Addr.add] using c0, by simpa using c1, hr, by
          rw [hDi]
          show (cat L).size ≤ _
          simp only [Rows.uptoBulk, Rows.uptoBulkAll]
          omega⟩
    have hE : ∃ E : List Ed, E.length = len ∧ ∀ i x, E[i]? = some x → ∃ (A' : Option Addr) (n' c' : Nat), W.cell? (a.add (i * 2)) = some (.int .i64 x.1) ∧ W.cell? ((a.add (i * 2)).add 1) = some (.slice A' n' c') ∧ RdR RS 1 W A' n' c' x.2 ∧ (cat x.2).size ≤ Rows.uptoBulk (D i) := by
      refine ⟨(List.range len).map (fun i => if h : i < m then (hrow i h).choose else (0, [])), by simp, fun i x hx => ?_⟩
      have hkl : i < len := by
        rcases Nat.lt_or_ge i len with h1 | h1
        · exact h1
        · rw [List.getElem?_eq_none (by simpa using h1)] at hx; cases hx
      rw [List.getElem?_map, List.getElem?_range hkl] at hx
      simp only [Option.map_some, Option.some.injEq] at hx
      rw [dif_pos (by omega)] at hx
      obtain ⟨A', n', c', h1, h2, h3, h4⟩ := (hrow i (by omega)).choose_spec
      rw [hx] at h1 h3 h4
      exact ⟨A', n', c', h1, h2, h3, h4⟩
    obtain ⟨E, hEl, hEr⟩ := hE
    -- the cells, in a row
    have hcells : ∃ xs : List Value, xs.length = len * 2 ∧ (∀ j u, xs[j]? = some u → W.cell? (a.add j) = some u) ∧ Fits RE 2 W E xs := by
      have key : ∀ k, k ≤ len → ∃ xs : List Value, xs.length = k * 2 ∧ (∀ j u, xs[j]? = some u → W.cell? (a.add j) = some u) ∧ Fits RE 2 W (E.take k) xs := by
        intro k
        induction k with
        | zero => intro _; exact ⟨[], by simp, fun j u hu => by simp at hu, fun i x hx => by simp at hx⟩
        | succ k ih =>
          intro hk
          obtain ⟨xs, h1, h2, h3⟩ := ih (by omega)
          have hke : k < E.length := by omega
          obtain ⟨A', n', c', g1, g2, g3, -⟩ := hEr k E[k] (List.getElem?_eq_getElem hke)
          refine ⟨xs ++ [.int .i64 E[k].1, .slice A' n' c'], by rw [List.length_append, h1]; simp; omega, fun j u hu => ?_, fun i x hx => ?_⟩
          · rcases Nat.lt_or_ge j xs.length with hj | hj
            · rw [List.getElem?_append_left hj] at hu; exact h2 j u hu
            · rw [List.getElem?_append_right hj] at hu
              rcases Nat.lt_or_ge (j - xs.length) 1 with hj1 | hj1
              · have e1 : j = k * 2 := by omega
                rw [show j - xs.length = 0 by omega] at hu
                simp at hu
                rw [e1, ← hu]; exact g1
              · rcases Nat.lt_or_ge (j - xs.length) 2 with hj2 | hj2
                · rw [show j - xs.length = 1 by omega] at hu
                  simp at hu
                  rw [show j = k * 2 + 1 by omega, ← hu, ← add_of_add]; exact g2
                · rw [List.getElem?_eq_none (by simpa using hj2)] at hu; cases hu
          · rcases Nat.lt_or_ge i k with hik | hik
            · have hx2 : (E.take k)[i]? = some x := by
                rw [List.getElem?_take, if_pos hik]
                rw [List.getElem?_take, if_pos (by omega)] at hx
                exact hx
              have h5 := h3 i x hx2
              have h6 : (i + 1) * 2 ≤ xs.length := by omega
              rw [List.drop_append_of_le_length (by omega), List.take_append_of_le_length (by rw [List.length_drop]; omega)]
              exact h5
            · have hik2 : i = k := by
                rcases Nat.lt_or_ge i (E.take (k + 1)).length with h4 | h4
                · rw [List.length_take] at h4; omega
                · rw [List.getElem?_eq_none h4] at hx; cases hx
              subst hik2
              rw [List.getElem?_take, if_pos (by omega), List.getElem?_eq_getElem hke] at hx
              injection hx with hx
              subst hx
              refine ⟨A', n', c', ?_, g3⟩
              rw [← h1, List.drop_left]
              rfl
      obtain ⟨xs, h1, h2, h3⟩ := key len (Nat.le_refl _)
      rw [List.take_of_length_le (by omega)] at h3
      exact ⟨xs, h1, h2, h3⟩
    obtain ⟨xs, h1, h2, h3⟩ := hcells
    have hbulk : ∀ k, k ≤ len → (cat (dstE (E.take k))).size ≤ Rows.uptoBulkAll ((List.range k).map D) := by
      intro k
      induction k with
      | zero => intro _; exact Nat.zero_le _
      | succ k ih =>
        intro hk
        have hke : k < E.length := by omega
        have hg := List.getElem?_eq_getElem hke
        obtain ⟨A', n', c', g1, g2, g3, g4⟩ := hEr k E[k] hg
        have ih' := ih (by omega)
        rw [dstE_snoc hg, cat_size_append, List.range_succ, List.map_append, bulk_append]
        have : (cat (if E[k].1 = 2 then [] else E[k].2)).size ≤ (cat E[k].2).size := by
          split
          · exact Nat.zero_le _
          · exact Nat.le_refl _
        simp only [List.map_cons, List.map_nil, Rows.uptoBulkAll]
        omega
    have hd : d = .slice ((List.range len).map D) ((List.range (m - len)).map fun j => D (len + j)) := by
      injection hxd
    refine ⟨_, len, m, E, rfl, ⟨hEl.symm, hl, hm, xs, ⟨h1, fun h0 => ⟨a, rfl, ?_, h2⟩⟩, h3⟩, ?_⟩
    rotate_left
    · have h9 := hbulk len (Nat.le_refl _)
      rw [List.take_of_length_le (by omega)] at h9
      rw [hd]
      simp only [Rows.uptoBulk]
      omega
    obtain ⟨x, A', n', c', g1, _⟩ := hrow 0 (by omega)
    have := World.block_lt_of_cell? W _ g1
    simpa [Addr.add] using this
end Go.Proofs.YtakbpdlfgjfbeaaDoor
