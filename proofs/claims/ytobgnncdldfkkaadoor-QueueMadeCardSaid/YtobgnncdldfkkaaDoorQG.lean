/- The walk of slices.Delete at jobs. -/
import Derived.Test.YtobgnncdldfkkaaDoorQF
import Derived.Lib.SliceRun
import Derived.Deep.RegionLaw
namespace Go.Proofs.YtobgnncdldfkkaaDoor
open Go.RowKit
set_option linter.unusedSimpArgs false
set_option linter.unusedVariables false

/-- a list with some of its places laid anew -/
def putMany {α : Type} : List α → Nat → List α → List α
  | xs, _, [] => xs
  | xs, o, v :: r => putMany (xs.set o v) (o + 1) r
theorem putMany_eq {α : Type} : ∀ (vs xs : List α) (o : Nat), o + vs.length ≤ xs.length → putMany xs o vs = xs.take o ++ vs ++ xs.drop (o + vs.length)
  | [], xs, o, h => by simp [putMany]
  | v :: r, xs, o, h => by
    simp only [List.length_cons] at h
    rw [putMany, putMany_eq r _ _ (by rw [List.length_set]; omega)]
    have ho : o < xs.length := by omega
    have e1 : (xs.set o v).take (o + 1) = xs.take o ++ [v] := by
      rw [List.take_add_one, List.getElem?_eq_getElem (by rw [List.length_set]; exact ho)]
      simp [List.take_set_of_le]
    have e2 : (xs.set o v).drop (o + 1 + r.length) = xs.drop (o + 1 + r.length) := by
      rw [List.drop_set_of_lt (by omega)]
    rw [e1, e2, List.length_cons, show o + (r.length + 1) = o + 1 + r.length by omega]
    simp
theorem own_setCells {base e size g n cap : Nat} : ∀ (vs xs : List Value) (o : Nat) (w : World), w.ownsRow base e size (.slice (some ⟨g, 0, none⟩) n cap) n xs →
    (w.setCells g o vs).ownsRow base e size (.slice (some ⟨g, 0, none⟩) n cap) n (putMany xs o vs) ∧ w.grownBy (w.setCells g o vs) (some g)
  | [], xs, o, w, h => ⟨h, World.grownBy.refl w _⟩
  | v :: r, xs, o, w, h => by
    obtain ⟨h1, h2⟩ := h.stored o v
    obtain ⟨h3, h4⟩ := own_setCells r _ (o + 1) _ h1
    exact ⟨h3, h2.trans h4⟩
theorem own_less {w : World} {base e size g n m cap : Nat} {xs : List Value} (h : w.ownsRow base e size (.slice (some ⟨g, 0, none⟩) n cap) n xs) (hm : m ≤ n) :
    w.ownsRow base e size (.slice (some ⟨g, 0, none⟩) m cap) m (xs.take (m * size)) := by
  have hms := Nat.mul_le_mul_right size hm
  rcases h.2 with ⟨e1, _⟩ | ⟨g', cap', cur, e1, hb, hg, hnc, hcm, hcs, htake⟩
  · simp at e1
  · simp only [Value.slice.injEq, Option.some.injEq, Addr.mk.injEq, and_true, true_and] at e1
    obtain ⟨rfl, rfl⟩ := e1
    refine ⟨by rw [List.length_take, h.1]; omega, .inr ⟨g, cap, cur, rfl, hb, hg, by omega, hcm, hcs, ?_⟩⟩
    rw [← htake, List.take_take]
    congr 1
    omega
theorem own_cells {w : World} {base e size g n cap : Nat} {xs : List Value} (h : w.ownsRow base e size (.slice (some ⟨g, 0, none⟩) n cap) n xs) (k : Nat) (hk : k < cap * size) :
    (w.cell? ⟨g, k, none⟩).isSome = true ∧ w.frozen? ⟨g, k, none⟩ = false ∧ (k < n * size → w.cell? ⟨g, k, none⟩ = xs[k]?) := by
  rcases h.2 with ⟨e1, _⟩ | ⟨g', cap', cur, e1, hb, hg, hnc, hcm, hcs, htake⟩
  · simp at e1
  · simp only [Value.slice.injEq, Option.some.injEq, Addr.mk.injEq, and_true, true_and] at e1
    obtain ⟨rfl, rfl⟩ := e1
    have hc := Blk.cell hg k
    have hf := Blk.frozen hg k
    refine ⟨?_, hf, fun hk2 => ?_⟩
    · rw [hc, Array.getElem?_eq_getElem (by omega)]; rfl
    · rw [hc, ← htake, List.getElem?_take, if_pos hk2, Array.getElem?_toList]
theorem zero_job (w : World) : (zeroValue 28).run Tryd.prog w = .ok jb0.val w := by kernel_rfl
theorem run_clear_job (w : World) (ty : TypeId) (b o c : Nat)
    (hc : ∀ j, j < 4 → (w.cell? ⟨b, o + j, none⟩).isSome = true) (hf : ∀ j, j < 4 → w.frozen? ⟨b, o + j, none⟩ = false) :
    (Builtin.clear_ #[22] ty #[.slice (some ⟨b, o, none⟩) 1 c]).run Tryd.prog w = .ok (.tuple #[]) (w.setCells b o jb0.cells) := by
  obtain ⟨z, hz⟩ : ∃ z, z = jb0.val := ⟨_, rfl⟩
  have hzv : ∀ w, (zeroValue 28).run Tryd.prog w = .ok z w := fun w => by rw [hz]; exact zero_job w
  have hzc : (Builtin.zeroCells z.cells 1).toList = jb0.cells := by rw [hz]; kernel_rfl
  have l4 : jb0.cells.length = 4 := rfl
  have hst := run_storeCells_cells (P := Tryd.prog) b o jb0.cells 0 w (by rw [l4]; simpa using hc) (by rw [l4]; simpa using hf) (by intro v hv; simp [Jb.cells] at hv; rcases hv with rfl | rfl | rfl | rfl <;> rfl)
  simp only [Nat.add_zero] at hst
  clear hz
  simp [Builtin.clear_, run_underlying Tryd.underlying22, hzv, hzc, hst]

set_option maxRecDepth 1000000 in
set_option maxHeartbeats 8000000 in
theorem delete_job (g n c i : Nat) (J : Int) (L : List Jb) (base : Nat) (w : World) (h : OwR RJ 4 w base 28 (some ⟨g, 0, none⟩) n c L) (hi : i < n) (hJ : J = ((i + 1 : Nat) : Int)) :
    Calls Tryd.prog 40 #[.slice (some ⟨g, 0, none⟩) n c, .int .i64 i, .int .i64 J] w fun e w' => e = .returned (.slice (some ⟨g, 0, none⟩) (n - 1) c) ∧ OwR RJ 4 w' base 28 (some ⟨g, 0, none⟩) (n - 1) c (L.eraseIdx i) ∧ w.grownBy w' (some g) := by
  subst hJ
  obtain ⟨i0, hi0, hz0, hz1, hz2⟩ := info_parts job_info2
  have hv := OwJ.vals h
  have hlen := h.len
  have hcap := h.cap
  have hmaxc := h.max
  unfold maxLen at hmaxc
  have hjl := jcells_length L
  obtain ⟨news, hnews⟩ : ∃ news, news = (jcells L).drop ((i + 1) * 4) := ⟨_, rfl⟩
  have hnl : news.length = (n - (i + 1)) * 4 := by rw [hnews, List.length_drop, hjl, ← hlen]; omega
  obtain ⟨A, hA, hsrc⟩ : ∃ A : Addr, (if c = i + 1 then some (⟨g, 0, none⟩ : Addr) else some ⟨g, (i + 1) * 4, none⟩) = some A ∧ Hid (∀ t u, news[t]? = some u → w.drew.cell? (A.add t) = some u) := by
    by_cases hc : c = i + 1
    · refine ⟨⟨g, 0, none⟩, by simp [hc], Lib.hid fun t u hu => ?_⟩
      have h0 : news.length = 0 := by rw [hnl]; omega
      rw [List.length_eq_zero_iff.1 h0] at hu
      simp at hu
    · refine ⟨⟨g, (i + 1) * 4, none⟩, by simp [hc], Lib.hid fun t u hu => ?_⟩
      have ht : t < (n - (i + 1)) * 4 := by
        have := (List.getElem?_eq_some_iff.1 hu).1
        rwa [hnl] at this
      rw [Addr.add_lit]
      rw [hnews, List.getElem?_drop] at hu
      exact ((own_cells hv ((i + 1) * 4 + t) (by omega)).2.2 (by omega)).trans hu
  have s2 : Hid (∀ u ∈ news, u.oneCell' = true) := Lib.hid fun u hu => by
    rw [hnews] at hu
    exact jcells_one L u (List.mem_of_mem_drop hu)
  have s3 : Hid (∀ t, t < news.length → (w.drew.cell? ⟨g, 0 + i * 4 + t, none⟩).isSome = true ∧ w.drew.frozen? ⟨g, 0 + i * 4 + t, none⟩ = false) := Lib.hid fun t ht => by
    rw [hnl] at ht
    have := own_cells hv (0 + i * 4 + t) (by omega)
    exact ⟨this.1, this.2.1⟩
  have hv0 : w.drew.ownsRow base 28 4 (.slice (some ⟨g, 0, none⟩) n c) n (jcells L) := hv
  obtain ⟨W1, hW1⟩ : ∃ W1, W1 = w.drew.setCells g (0 + i * 4) news := ⟨_, rfl⟩
  obtain ⟨hv1, hg1⟩ := own_setCells news (jcells L) (0 + i * 4) w.drew hv0
  rw [← hW1] at hv1 hg1
  have hcl : Hid (∀ ty, (Builtin.clear_ #[22] ty #[.slice (some ⟨g, (n - 1) * 4, none⟩) 1 (c - (n - 1))]).run Tryd.prog W1 = .ok (.tuple #[]) (W1.setCells g ((n - 1) * 4) jb0.cells)) := Lib.hid fun ty =>
    run_clear_job W1 ty g _ _ (fun j hj => (own_cells hv1 _ (by omega)).1) (fun j hj => (own_cells hv1 _ (by omega)).2.1)
  obtain ⟨hv2, hg2⟩ := own_setCells jb0.cells _ ((n - 1) * 4) W1 hv1
  have hv3 := own_less hv2 (Nat.sub_le n 1)
  have hrow : ((putMany (putMany (jcells L) (0 + i * 4) news) ((n - 1) * 4) jb0.cells).take ((n - 1) * 4)) = jcells (L.eraseIdx i) := by
    have l0 : (putMany (jcells L) (0 + i * 4) news).length = n * 4 := hv1.1
    rw [putMany_eq _ _ _ (by rw [l0]; show (n - 1) * 4 + 4 ≤ _; omega), List.append_assoc, List.take_append_of_le_length (by rw [List.length_take, l0]; omega), List.take_take, Nat.min_self]
    rw [putMany_eq _ _ _ (by rw [hnl, hjl]; omega), List.take_append_of_le_length (by rw [List.length_append, List.length_take, hnl, hjl]; omega), List.take_of_length_le (by rw [List.length_append, List.length_take, hnl, hjl]; omega)]
    rw [hnews, Nat.zero_add, jcells_take, jcells_drop, ← jcells_append, List.eraseIdx_eq_take_drop_succ]
  rw [hrow] at hv3
  have HF : Hid (OwR RJ 4 (W1.setCells g ((n - 1) * 4) jb0.cells) base 28 (some ⟨g, 0, none⟩) (n - 1) c (L.eraseIdx i) ∧ w.grownBy (W1.setCells g ((n - 1) * 4) jb0.cells) (some g)) := Lib.hid (by
    obtain ⟨A', c', e1, ho⟩ := OwJ.of_vals hv3
    injection e1 with e1 e2 e3
    subst e1 e3
    refine ⟨ho, ?_⟩
    have h1 : w.grownBy w.drew (some g) := ⟨rfl, rfl, rfl, Nat.le_refl _, fun _ _ _ => rfl⟩
    exact (h1.trans hg1).trans hg2)
  obtain ⟨k, hk, hk1⟩ : ∃ k, n - 1 = k ∧ n - k = 1 := ⟨n - 1, rfl, by omega⟩
  rw [hk] at hcl HF ⊢
  have hki : i + (n - (i + 1)) = k := by omega
  have hkn : (k : Int) ≤ (n : Int) := by omega
  have hkc : n ≤ c := hcap
  have hW : Hid (W1 = w.drew.setCells g (0 + i * 4) news) := Lib.hid hW1
  have hic : i ≤ c := by omega
  have hjc : i + 1 ≤ c := by omega
  have hnl' := Lib.hid hnl
  clear hW1 hv hv0 hv1 hg1 hv2 hg2 hv3 hrow hnews h hlen hjl hnl
  have hmixed : Tryd.prog.follows .mixedOrders = true := by kernel_rfl
  have z0 : (0 : Int) ≤ (i : Int) + 1 := by omega
  have z1 : (i : Int) + 1 ≤ (n : Int) := by omega
  have hn63 : (n : Int) ≤ 9223372036854775807 := by omega
  have hq : ((i : Int) == ((i + 1 : Nat) : Int)) = false := by simp; omega
  go_enter Tryd.func40, Tryd.ntmps40
  go_wp2_with fail
  go_region_law_o (refine step_append_room rfl (.tmp 22) (.tmp 25) 22 rfl 28 i0 4 Tryd.underlying22 hi0 hz1 g 0 i c (by simp [Act.eval, Act.put]) A (n - (i + 1)) (c - (i + 1)) news (by simp [Act.eval, Act.put]) hnl'.out hsrc.out s2.out (by omega) s3.out ?_; rw [← hW.out])
  try rw [hki]
  have hcl2 := hcl.out
  go_wp2_with fail

  go_ret
  exact ⟨rfl, HF.out.1, HF.out.2⟩
end Go.Proofs.YtobgnncdldfkkaaDoor
