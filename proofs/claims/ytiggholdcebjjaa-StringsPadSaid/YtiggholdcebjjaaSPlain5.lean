/- Plain law of the strings: strings of bytes below 128. -/
import Derived.Test.YtiggholdcebjjaaSPlain4
namespace Go.Proofs.Ytiggholdcebjjaa
set_option linter.unusedSimpArgs false
set_option linter.unusedVariables false

def Asc (s : ByteArray) : Prop := ∀ (j : Nat) (h : j < s.size), (s[j]'h).toNat < 128
theorem asc_cuts {s : ByteArray} (h : Asc s) : ∀ f pos, pos + f = s.size → cutsFrom s f pos = (List.range f).map (pos + ·)
  | 0, pos, e => by simp [cutsFrom]
  | f + 1, pos, e => by
    have hp : pos < s.size := by omega
    rw [cutsFrom_step s f pos hp, decode_ascii s pos hp (h pos hp), asc_cuts h f (pos + 1) (by omega), List.range_succ_eq_map]
    simp [List.map_map, Function.comp_def]
    intro a _
    omega
theorem asc_NR {s : ByteArray} (h : Asc s) : NR s = s.size := Lib.runeCount_ascii s h
theorem asc_O {s : ByteArray} (h : Asc s) {k : Nat} (hk : k ≤ s.size) : O s k = k := by
  rcases Nat.lt_or_eq_of_le hk with h1 | rfl
  · have hl := offs_len s
    rw [asc_NR h] at hl
    unfold O
    rw [getD_eq (by omega)]
    have hl2 : (cutsFrom s s.size 0).length = s.size := by rw [asc_cuts h _ _ (by omega)]; simp
    have : offs s = cutsFrom s s.size 0 ++ [s.size] := rfl
    simp only [this]
    rw [List.getElem_append_left (by omega)]
    simp [asc_cuts h s.size 0 (by omega)]
  · have := O_last s
    rwa [asc_NR h] at this
theorem asc_list {s : ByteArray} : Asc s ↔ ∀ b ∈ s.data.toList, b.toNat < 128 := by
  constructor
  · intro h b hb
    obtain ⟨i, hi, rfl⟩ := List.getElem_of_mem hb
    exact h i (by simpa using hi)
  · intro h j hj
    exact h _ (by rw [Array.mem_toList_iff]; exact Array.getElem_mem hj)
theorem asc_append {a b : ByteArray} (ha : Asc a) (hb : Asc b) : Asc (a ++ b) := by
  rw [asc_list] at *
  intro x hx
  simp at hx
  rcases hx with h | h
  · exact ha x (by simpa using h)
  · exact hb x (by simpa using h)
theorem stands_mid (a b c : ByteArray) : stands (a ++ b ++ c) b a.size = true := by
  unfold stands Lib.occAt
  simp
theorem occI_upto {s t : ByteArray} : ∀ d {i q : Nat}, i + d = q → q ≤ NR s → stands s t (O s q) = true → ∃ p : Nat, occI s t i = (p : Int) ∧ i ≤ p ∧ p ≤ q
  | 0, i, q, e, h, hs => by
    obtain rfl : i = q := by omega
    exact ⟨i, occI_hit (by omega) hs, Nat.le_refl _, Nat.le_refl _⟩
  | d + 1, i, q, e, h, hs => by
    cases h1 : stands s t (O s i)
    · rw [occI_miss (by omega) h1]
      obtain ⟨p, h2, h3, h4⟩ := occI_upto d (i := i + 1) (q := q) (by omega) h hs
      exact ⟨p, h2, by omega, h4⟩
    · exact ⟨i, occI_hit (by omega) h1, Nat.le_refl _, by omega⟩
theorem within_place {a b c : ByteArray} (ha : Asc a) (hb : Asc b) (hc : Asc c) : ∃ p : Nat, occI (a ++ b ++ c) b 0 = (p : Int) ∧ p ≤ a.size := by
  have hs := asc_append (asc_append ha hb) hc
  have hz : (a ++ b ++ c).size = a.size + b.size + c.size := by simp [ByteArray.size_append]
  have hN := asc_NR hs
  obtain ⟨p, h1, _, h3⟩ := occI_upto (s := a ++ b ++ c) (t := b) a.size (i := 0) (q := a.size) (by omega) (by omega) (by rw [asc_O hs (by omega)]; exact stands_mid a b c)
  exact ⟨p, h1, h3⟩
theorem within_from {a b c : ByteArray} (ha : Asc a) (hb : Asc b) (hc : Asc c) : occI (a ++ b ++ c) b a.size = (a.size : Int) := by
  have hs := asc_append (asc_append ha hb) hc
  have hz : (a ++ b ++ c).size = a.size + b.size + c.size := by simp [ByteArray.size_append]
  have hN := asc_NR hs
  exact occI_hit (by omega) (by rw [asc_O hs (by omega)]; exact stands_mid a b c)
theorem within_count {a b c : ByteArray} (ha : Asc a) (hb : Asc b) (hc : Asc c) : (occs (a ++ b ++ c) b).length = 0 ↔ b.size = 0 := by
  obtain ⟨p, h1, h2⟩ := within_place ha hb hc
  unfold occs
  split
  · rename_i h; simp [h]
  · rename_i h
    have := ((occsI_occ (s := a ++ b ++ c) (t := b) (e := 0) _ (j := 0) rfl (fun _ _ _ => Nat.zero_le _)).2 p h1)
    rw [this]
    simp [h]
end Go.Proofs.Ytiggholdcebjjaa
