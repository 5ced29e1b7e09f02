/- The script, as the two walks of Diff meet it (plain Lean); the part of a row of strings. -/
import Derived.Test.YtakbpdlfgjfbeaaDoorTab
import Derived.Test.YtakbpdlfgjfbeaaDoorSE
namespace Go.Proofs.YtakbpdlfgjfbeaaDoor
open Go.RowKit
set_option linter.unusedSimpArgs false
set_option linter.unusedVariables false

abbrev BE : ByteArray := ByteArray.empty
def hitAt (x y : List ByteArray) (i j : Nat) : Prop := i < x.length ∧ j < y.length ∧ x.getD i BE = y.getD j BE
theorem getD_lt {x : List ByteArray} {i : Nat} (h : i < x.length) : x.getD i BE = x[i] := by simp [List.getD, List.getElem?_eq_getElem h]
section
variable {x y : List ByteArray} {i j : Nat}
theorem scr_h (h : hitAt x y i j) : scr (x.drop i) (y.drop j) = (1, x.getD i BE) :: scr (x.drop (i + 1)) (y.drop (j + 1)) := by
  obtain ⟨hi, hj, e⟩ := h
  rw [getD_lt hi, getD_lt hj] at e
  rw [getD_lt hi]
  exact scr_hit hi hj e
theorem scr_d (hi : i < x.length) (h : y.length ≤ j ∨ (¬ hitAt x y i j ∧ LT x y i (j + 1) ≤ LT x y (i + 1) j)) : scr (x.drop i) (y.drop j) = (2, x.getD i BE) :: scr (x.drop (i + 1)) (y.drop j) := by
  rw [getD_lt hi]
  rcases Nat.lt_or_ge j y.length with hj | hj
  · rcases h with h | ⟨h, hl⟩
    · omega
    · exact scr_del hi hj (fun e => h ⟨hi, hj, by rw [getD_lt hi, getD_lt hj]; exact e⟩) hl
  · exact scr_del_end hi hj
theorem scr_i (hj : j < y.length) (h : x.length ≤ i ∨ (¬ hitAt x y i j ∧ ¬ LT x y i (j + 1) ≤ LT x y (i + 1) j)) : scr (x.drop i) (y.drop j) = (3, y.getD j BE) :: scr (x.drop i) (y.drop (j + 1)) := by
  rw [getD_lt hj]
  rcases Nat.lt_or_ge i x.length with hi | hi
  · rcases h with h | ⟨h, hl⟩
    · omega
    · exact scr_ins hi hj (fun e => h ⟨hi, hj, by rw [getD_lt hi, getD_lt hj]; exact e⟩) hl
  · exact scr_ins_end hi hj
theorem scr_no1 (h : ¬ hitAt x y i j) : ∀ o r, scr (x.drop i) (y.drop j) = o :: r → o.1 ≠ 1 := by
  intro o r e
  rcases Nat.lt_or_ge i x.length with hi | hi
  · by_cases hl : y.length ≤ j ∨ (¬ hitAt x y i j ∧ LT x y i (j + 1) ≤ LT x y (i + 1) j)
    · rw [scr_d hi hl] at e
      injection e with e1 _
      rw [← e1]; simp
    · have hj : j < y.length := by
        rcases Nat.lt_or_ge j y.length with h1 | h1
        · exact h1
        · exact absurd (Or.inl h1) hl
      rw [scr_i hj (Or.inr ⟨h, fun h2 => hl (Or.inr ⟨h, h2⟩)⟩)] at e
      injection e with e1 _
      rw [← e1]; simp
  · rcases Nat.lt_or_ge j y.length with hj | hj
    · rw [scr_i hj (Or.inl hi)] at e
      injection e with e1 _
      rw [← e1]; simp
    · rw [scr_end hi hj] at e; cases e
theorem scr_1 (h : hitAt x y i j ∨ (x.length ≤ i ∧ y.length ≤ j)) : ∀ o r, scr (x.drop i) (y.drop j) = o :: r → o.1 = 1 := by
  intro o r e
  rcases h with h | ⟨h1, h2⟩
  · rw [scr_h h] at e
    injection e with e1 _
    rw [← e1]
  · rw [scr_end h1 h2] at e; cases e
end

/-- what is left of the script leads to the edits of x and y -/
def Inv (x y : List ByteArray) (s : St ByteArray) (i j : Nat) : Prop := run s (scr (x.drop i) (y.drop j)) = edits x y
section
variable {x y : List ByteArray} {i j : Nat} {E : List (Nat × List ByteArray)} {D I K : List ByteArray} {s : St ByteArray}
theorem Inv.start (x y : List ByteArray) : Inv x y ⟨[], [], [], []⟩ 0 0 := rfl
theorem Inv.hit (h : Inv x y s i j) (hh : hitAt x y i j) : Inv x y (stp s (1, x.getD i BE)) (i + 1) (j + 1) := by
  unfold Inv at *; rw [scr_h hh, run_cons] at h; exact h
theorem Inv.del (h : Inv x y s i j) (hi : i < x.length) (hl : y.length ≤ j ∨ (¬ hitAt x y i j ∧ LT x y i (j + 1) ≤ LT x y (i + 1) j)) : Inv x y (stp s (2, x.getD i BE)) (i + 1) j := by
  unfold Inv at *; rw [scr_d hi hl, run_cons] at h; exact h
theorem Inv.ins (h : Inv x y s i j) (hj : j < y.length) (hl : x.length ≤ i ∨ (¬ hitAt x y i j ∧ ¬ LT x y i (j + 1) ≤ LT x y (i + 1) j)) : Inv x y (stp s (3, y.getD j BE)) i (j + 1) := by
  unfold Inv at *; rw [scr_i hj hl, run_cons] at h; exact h
theorem Inv.fin (h : Inv x y s i j) (hi : x.length ≤ i) (hj : y.length ≤ j) : fin s = edits x y := by
  unfold Inv at h; rw [scr_end hi hj] at h; exact h
theorem stp1 (a : ByteArray) : stp ⟨E, [], [], K⟩ (1, a) = ⟨E, [], [], K ++ [a]⟩ := by simp [stp, put1_nil]
theorem stp2 (a : ByteArray) : stp ⟨E, D, I, []⟩ (2, a) = ⟨E, D ++ [a], I, []⟩ := by simp [stp, put1_nil]
theorem stp3 (a : ByteArray) : stp ⟨E, D, I, []⟩ (3, a) = ⟨E, D, I ++ [a], []⟩ := by simp [stp, put1_nil]
theorem Inv.kept (h : Inv x y ⟨E, [], [], K⟩ i j) (hh : ¬ hitAt x y i j) : Inv x y ⟨E ++ put1 1 K, [], [], []⟩ i j := by
  unfold Inv at *; rw [← run_kept E K _ (scr_no1 hh)]; exact h
theorem Inv.changed (h : Inv x y ⟨E, D, I, []⟩ i j) (hh : hitAt x y i j ∨ (x.length ≤ i ∧ y.length ≤ j)) : Inv x y ⟨E ++ put1 2 D ++ put1 3 I, [], [], []⟩ i j := by
  unfold Inv at *; rw [← run_changed E D I _ (scr_1 hh)]; exact h
theorem Inv.done (h : Inv x y ⟨E, [], [], []⟩ i j) (hi : x.length ≤ i) (hj : y.length ≤ j) : E = edits x y := by
  rw [← h.fin hi hj]; simp [Go.Proofs.YtakbpdlfgjfbeaaDoor.fin, put1_nil]
end
theorem take_snoc_drop (x : List ByteArray) {f i : Nat} (hf : f ≤ i) (hi : i < x.length) : (x.drop f).take (i - f) ++ [x.getD i BE] = (x.drop f).take (i + 1 - f) := by
  rw [getD_lt hi, show i + 1 - f = (i - f) + 1 by omega, List.take_succ_eq_append_getElem (by rw [List.length_drop]; omega), List.getElem_drop]
  congr 3
  omega
theorem put1_length (k : Nat) (l : List ByteArray) : (put1 k l).length ≤ 1 := by unfold put1; split <;> simp

/-- two rows lie in different blocks -/
def Ne2 (A A' : Option Addr) : Prop := ∀ b, A.map (·.block) = some b → A'.map (·.block) ≠ some b
theorem Ne2.symm {A A' : Option Addr} (h : Ne2 A A') : Ne2 A' A := fun b h1 h2 => h b h2 h1
theorem Ne2.none_ (A : Option Addr) : Ne2 none A := fun b h => by simp at h
theorem Ne2.grow {base base' e n c : Nat} {w w' : World} {A A' B : Option Addr} {L : List ByteArray} (h : Ne2 B A) (hg : OwG base w w' A A') (hB : OwR RS 1 w base' e B n c L) : Ne2 B A' := by
  intro b h1 h2
  rcases hg.n with e1 | ⟨k, e1, hk⟩
  · exact h b h1 (e1 ▸ h2)
  · rw [e1] at h2
    injection h2 with h2
    subst h2
    cases B with
    | none => simp at h1
    | some ad =>
      have := (OwS.ty hB).lt
      simp at h1
      omega
/-- a part of a row of strings that is read -/
theorem RdS.cut {P : Program} {t : TypeId} {w : World} {A : Option Addr} {n c : Nat} {l : List ByteArray} (h : RdR RS 1 w A n c l) (ht : P.underlying t = some (.slice (P.elem t))) (hz : ∀ W : World, (sizeOf (P.elem t)).run P W = .ok 1 W)
    (LO HI : Int) (lo ln : Nat) (hlo : LO = lo) (hhi : HI = ((lo + ln : Nat) : Int)) (h2 : lo + ln ≤ n) :
    ∃ A', (∀ W : World, (Instr.slice t (.slice A n c) (some (.int .i64 LO)) (some (.int .i64 HI)) none).run P W = .ok (.slice A' ln (c - lo)) W) ∧ RdR RS 1 w A' ln (c - lo) ((l.drop lo).take ln) := by
  subst hlo hhi
  have hcap := h.cap
  have hln := h.len
  have hd : lo + ln - lo = ln := by omega
  obtain ⟨xs, h1, h3⟩ := h.reads
  refine ⟨if c = lo then A else A.map (·.add lo), fun W => ?_, ?_⟩
  · rw [run_slice_lh W t A n c ht .i64 .i64 lo _ (by omega) (by omega) (by omega)]
    simp [hz, Result.andThen, sliced]
    omega
  · refine ⟨by rw [List.length_take, List.length_drop]; omega, by omega, by have := h.max; omega, (xs.drop lo).take ln, ?_, ?_⟩
    · have hc := Reads.cut h1 (k := lo) (cap := c) (by omega) hcap
      rw [Nat.mul_one] at hc
      refine ⟨by rw [List.length_take, List.length_drop, h1.1]; omega, fun h0 => ?_⟩
      obtain ⟨ad, e, hb, hcell⟩ := hc.2 (by omega)
      refine ⟨ad, e, hb, fun j u hu => hcell j u ?_⟩
      rw [List.getElem?_take] at hu
      split at hu
      · exact hu
      · cases hu
    · intro k a hk
      rw [List.getElem?_take] at hk
      split at hk
      · rename_i hkl
        rw [List.getElem?_drop] at hk
        have := h3 _ a hk
        show _ = _
        have h4 : (xs.drop ((lo + k) * 1)).take 1 = [.string a] := this
        rw [Nat.mul_one] at h4 ⊢
        rw [List.drop_take, List.drop_drop, List.take_take, show min 1 (ln - k) = 1 by omega]
        exact h4
      · cases hk
end Go.Proofs.YtakbpdlfgjfbeaaDoor
