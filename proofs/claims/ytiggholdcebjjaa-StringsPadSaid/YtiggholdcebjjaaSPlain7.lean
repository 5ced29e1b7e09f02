/- Plain law of the strings: what is put before or behind a string. -/
import Derived.Test.YtiggholdcebjjaaSPlain5
import Derived.Lib.Repeat
namespace Go.Proofs.Ytiggholdcebjjaa
set_option linter.unusedSimpArgs false
set_option linter.unusedVariables false

def rep (f : ByteArray) (q : Nat) : ByteArray := ⟨(Lib.repeatL f.data.toList q).toArray⟩
/-- the first i runes of f, repeated -/
def PD (f : ByteArray) (i : Nat) : ByteArray := rep f (i / NR f) ++ f.extract 0 (O f (i % NR f))
section
variable {f : ByteArray}
theorem rp_assoc' (a b c : ByteArray) : a ++ b ++ c = a ++ (b ++ c) := by
  apply ByteArray.ext
  simp
theorem rep_zero : rep f 0 = ByteArray.empty := rfl
theorem rep_succ (q : Nat) : rep f (q + 1) = rep f q ++ f := by
  apply ByteArray.ext
  apply Array.toList_inj.1
  simp [rep, Lib.repeatL_add, Lib.repeatL_one]
theorem NR_pos (h : f.size ≠ 0) : 0 < NR f := by
  rcases Nat.eq_zero_or_pos (NR f) with h1 | h1
  · have := O_last f
    rw [h1, O_zero] at this
    omega
  · exact h1
theorem PD_zero : PD f 0 = ByteArray.empty := by
  unfold PD
  rw [Nat.zero_div, Nat.zero_mod, O_zero, rep_zero]
  apply ByteArray.ext
  simp
theorem PD_step (h : 0 < NR f) (i : Nat) : PD f (i + 1) = PD f i ++ f.extract (O f (i % NR f)) (O f (i % NR f + 1)) := by
  have hr := Nat.mod_lt i h
  have e := Nat.div_add_mod i (NR f)
  have e1 : i + 1 = NR f * (i / NR f) + (i % NR f + 1) := by omega
  have d1 : (i + 1) / NR f = i / NR f + (i % NR f + 1) / NR f := by
    conv => lhs; rw [e1]
    exact Nat.mul_add_div h _ _
  have d2 : (i + 1) % NR f = (i % NR f + 1) % NR f := by
    conv => lhs; rw [e1]
    exact Nat.mul_add_mod _ _ _
  unfold PD
  rw [d1, d2]
  have hO := O_lt (s := f) (j := i % NR f) (k := i % NR f + 1) (by omega) (by omega)
  rcases Nat.lt_or_ge (i % NR f + 1) (NR f) with h1 | h1
  · rw [Nat.div_eq_of_lt h1, Nat.mod_eq_of_lt h1, Nat.add_zero, ← ext_cat f (Nat.zero_le _) (Nat.le_of_lt hO)]
    apply ByteArray.ext
    simp
  · have h2 : i % NR f + 1 = NR f := by omega
    rw [h2, Nat.div_self h, Nat.mod_self, O_zero, rep_succ, O_last]
    have h3 := ext_cat2 f (O_size (s := f) (k := i % NR f) (by omega))
    have h4 : f.extract 0 0 = ByteArray.empty := by apply ByteArray.ext; simp
    rw [h4, rp_assoc' _ (f.extract 0 _), h3]
    apply ByteArray.ext
    simp
theorem PD_grow (h : 0 < NR f) (i : Nat) : (PD f i).size + 1 ≤ (PD f (i + 1)).size := by
  have hr := Nat.mod_lt i h
  have hO := O_lt (s := f) (j := i % NR f) (k := i % NR f + 1) (by omega) (by omega)
  rw [PD_step h, ByteArray.size_append, ext_size f (O_size (by omega))]
  omega
theorem PD_ge (h : 0 < NR f) : ∀ i, i ≤ (PD f i).size
  | 0 => Nat.zero_le _
  | i + 1 => by
    have := PD_ge h i
    have := PD_grow h i
    omega
theorem PD_mono (h : 0 < NR f) (i : Nat) : ∀ d, (PD f i).size ≤ (PD f (i + d)).size
  | 0 => Nat.le_refl _
  | d + 1 => by
    have h1 := PD_mono h i d
    have h2 := PD_grow h (i + d)
    rw [show i + (d + 1) = i + d + 1 by omega]
    omega
theorem PD_le {i j : Nat} (h : 0 < NR f) (hij : i ≤ j) : (PD f i).size ≤ (PD f j).size := by
  obtain ⟨d, rfl⟩ : ∃ d, i + d = j := ⟨j - i, by omega⟩
  exact PD_mono h i d
theorem rep_le (i : Nat) : (rep f (i / NR f)).size ≤ (PD f i).size := by
  unfold PD
  rw [ByteArray.size_append]
  omega
theorem size_rep (q : Nat) : (rep f q).size = q * f.size := by
  show (Lib.repeatL f.data.toList q).toArray.size = _
  simp [Lib.repeatL_length]
/-- bytes below 128 stay so, and their number is the one that was asked for -/
theorem asc_ext (h : Asc f) (a b : Nat) : Asc (f.extract a b) := by
  rw [asc_list] at *
  intro x hx
  rw [Lib.extract_data] at hx
  exact h x (List.mem_of_mem_drop (List.mem_of_mem_take hx))
theorem asc_rep (h : Asc f) : ∀ q, Asc (rep f q)
  | 0 => by rw [rep_zero, asc_list]; intro x hx; simp at hx
  | q + 1 => by rw [rep_succ]; exact asc_append (asc_rep h q) h
theorem asc_PD (h : Asc f) (i : Nat) : Asc (PD f i) := asc_append (asc_rep h _) (asc_ext h _ _)
theorem size_PD (h : Asc f) (h0 : f.size ≠ 0) : ∀ i, (PD f i).size = i
  | 0 => by rw [PD_zero]; rfl
  | i + 1 => by
    have hN := asc_NR h
    have hr := Nat.mod_lt i (NR_pos h0)
    rw [PD_step (NR_pos h0), ByteArray.size_append, ext_size f (O_size (by omega)), size_PD h h0 i, asc_O h (by omega), asc_O h (by omega)]
    omega
end
/-- what is put to s -/
def PP (s f : ByteArray) (n : Int) : ByteArray := if f.size = 0 ∨ n ≤ (NR s : Int) then ByteArray.empty else PD f (n - (NR s : Int)).toNat
theorem PP_form (s f : ByteArray) (n : Int) : (PP s f n = ByteArray.empty ∧ (f.size = 0 ∨ n ≤ (NR s : Int))) ∨ (∃ d : Nat, PP s f n = PD f d ∧ 0 < d ∧ f.size ≠ 0 ∧ n = (NR s : Int) + (d : Int)) := by
  unfold PP
  split
  · rename_i h; exact .inl ⟨rfl, h⟩
  · rename_i h; exact .inr ⟨_, rfl, by omega, by omega, by omega⟩
end Go.Proofs.Ytiggholdcebjjaa
