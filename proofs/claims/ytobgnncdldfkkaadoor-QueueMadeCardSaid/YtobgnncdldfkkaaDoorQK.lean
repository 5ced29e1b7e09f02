/- The walks of trcref38's cut, Add. -/
import Derived.Test.YtobgnncdldfkkaaDoorQJ
import Derived.Deep.RegionLaw
namespace Go.Proofs.YtobgnncdldfkkaaDoor
open Go.RowKit
set_option linter.unusedSimpArgs false
set_option linter.unusedVariables false

theorem size_job : ∀ W : World, (sizeOf (Tryd.prog.elem 22)).run Tryd.prog W = .ok 4 W := fun W => by kernel_rfl
theorem elem_job : Tryd.prog.underlying 22 = some (.slice (Tryd.prog.elem 22)) := by kernel_rfl
theorem RdJ.cutH {w : World} {A : Option Addr} {n c : Nat} {l : List Jb} (h : RdR RJ 4 w A n c l) (HI : Int) (ln : Nat) (hhi : HI = (ln : Int)) (h2 : ln ≤ n) :
    (∀ W : World, (Instr.slice 22 (.slice A n c) none (some (.int .i64 HI)) none).run Tryd.prog W = .ok (.slice A ln c) W) ∧ RdR RJ 4 w A ln c (l.take ln) := by
  subst hhi
  have hcap := h.cap
  have hln := h.len
  refine ⟨fun W => ?_, ?_⟩
  · rw [run_slice_h W 22 A n c elem_job .i64 ln (by omega) (by omega)]
    have e : (if c = 0 then A else A.map (·.add 0)) = A := by
      split
      · rfl
      · cases A <;> simp [Addr.add]
    simp [size_job, Result.andThen, sliced, Addr.add]
  · refine RdJ.of_vals (by rw [List.length_take]; omega) (by omega) h.max ?_
    have hv := RdJ.vals h
    refine ⟨by rw [jcells_length, List.length_take]; congr 1; omega, fun h0 => ?_⟩
    obtain ⟨ad, e, hb, hcell⟩ := hv.2 (by omega)
    refine ⟨ad, e, hb, fun j u hu => hcell j u ?_⟩
    rw [← jcells_take, List.getElem?_take] at hu
    split at hu
    · exact hu
    · cases hu
theorem RdJ.cutL {w : World} {A : Option Addr} {n c : Nat} {l : List Jb} (h : RdR RJ 4 w A n c l) (LO : Int) (lo : Nat) (hlo : LO = lo) (h2 : lo ≤ n) :
    ∃ A', (∀ W : World, (Instr.slice 22 (.slice A n c) (some (.int .i64 LO)) none none).run Tryd.prog W = .ok (.slice A' (n - lo) (c - lo)) W) ∧ RdR RJ 4 w A' (n - lo) (c - lo) (l.drop lo) := by
  subst hlo
  have hcap := h.cap
  have hln := h.len
  refine ⟨if c = lo then A else A.map (·.add (lo * 4)), fun W => ?_, ?_⟩
  · rw [run_slice_l W 22 A n c elem_job .i64 lo (by omega) (by omega)]
    simp [size_job, Result.andThen, sliced]
  · refine RdJ.of_vals (by rw [List.length_drop]; omega) (by omega) (by have := h.max; omega) ?_
    have hc := Reads.cut (RdJ.vals h) (k := lo) (cap := c) (by omega) hcap
    rw [← jcells_drop]
    exact hc

set_option maxRecDepth 100000 in
set_option maxHeartbeats 8000000 in
theorem cut_job (A : Option Addr) (n c : Nat) (L : List Jb) (I : Int) (i : Nat) (w : World) (h : RdR RJ 4 w A n c L) (hI : I = (i : Int)) (hi : i < n) (hn : n ≤ 50000) :
    Calls Tryd.prog 43 #[.slice A n c, .int .i64 I] w (RNewJ w (n - 1) (L.eraseIdx i)) := by
  subst hI
  obtain ⟨hc1, hr1⟩ := RdJ.cutH h (i : Int) i rfl (by omega)
  obtain ⟨A2, hc2, hr2⟩ := RdJ.cutL h ((i : Int) + 1) (i + 1) (by omega) (by omega)
  obtain ⟨i0, hi0, hz0, hz1, hz2⟩ := info_parts job_info2
  have q1 : IntKind.i64.wrap ((i : Int) + 1) = (i : Int) + 1 := IntWalk.i64_in _ (by omega)
  have q2 : i + (n - (i + 1)) = n - 1 := by omega
  have HE : Hid (L.eraseIdx i = L.take i ++ L.drop (i + 1)) := Lib.hid (List.eraseIdx_eq_take_drop_succ L i)
  have HL := Lib.hid h.len
  have hv1 := Lib.hid (RdJ.vals hr1)
  have HR2 := Lib.hid hr2
  have HLa : Hid (i = (L.take i).length) := Lib.hid hr1.len
  have HLb : Hid (n - (i + 1) = (L.drop (i + 1)).length) := Lib.hid hr2.len
  clear h hr1 hr2
  go_enter Tryd.func43, Tryd.ntmps43
  go_wp2_with fail
  go_region_law (first
    | ((refine step_append_r _ rfl (.const (.slice none 0 0)) (.tmp 7) 22 rfl 4 48 w.heap.size 28 i0 _ RJ.stay (by decide) Tryd.underlying22 hi0 hz0 hz1 hz2 rfl (by omega) none 0 0 [] rfl (OwR.nil _ _ _ _ _) A i c rfl (L.take i) (jcells (L.take i)) hv1.out (fits_jcells _ _) HLa.out (jcells_one _) ?_ ?_ ?_ ?_; (focus (unfold maxLen; omega)); (focus omega); (focus (rw [size_drew]; exact Nat.le_refl _)); intro A3 c3 w3 ho3 hg3; rw [Nat.zero_add, List.nil_append] at ho3; (have hb3 := hg3.drew_left.new)))
    | (go_must (refine step_append_r _ rfl (.tmp 8) (.tmp 12) 22 rfl 4 48 w.heap.size 28 i0 _ RJ.stay (by decide) Tryd.underlying22 hi0 hz0 hz1 hz2 rfl (by omega) A3 i c3 (L.take i) (by simp [Act.eval, Act.put]) ho3 A2 (n - (i + 1)) (c - (i + 1)) (by simp [Act.eval, Act.put]) (L.drop (i + 1)) (jcells (L.drop (i + 1))) (RdJ.vals (RdJ.below HR2.out hb3)) (fits_jcells _ _) HLb.out (jcells_one _) ?_ ?_ ?_ ?_; (focus (unfold maxLen; omega)); (focus omega); (focus (exact hb3.size)); intro A4 c4 w4 ho4 hg4)))
  all_goals
    try rw [q2] at ho4
    go_wp2
    go_ret
    exact ⟨A4, c4, by rfl, by rw [HE.out]; exact ho4, hb3.trans (hg4.b.mono (Nat.le_refl _))⟩
end Go.Proofs.YtobgnncdldfkkaaDoor
