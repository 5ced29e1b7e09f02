/- Plain law of the strings: where the runes of a string begin. -/
import Derived.Lib.RuneCount
import Derived.Lib.OthersKept
namespace Go.Proofs.YtiggholdcebjjaaDoor
set_option linter.unusedSimpArgs false
set_option linter.unusedVariables false

def cutsFrom (s : ByteArray) : Nat → Nat → List Nat
  | 0, _ => []
  | f + 1, pos => if pos < s.size then pos :: cutsFrom s f (pos + (Utf8.decode s pos).2) else []
/-- where the runes of s begin, and its end -/
def offs (s : ByteArray) : List Nat := cutsFrom s s.size 0 ++ [s.size]
theorem cutsFrom_end (s : ByteArray) (f pos : Nat) (h : ¬ pos < s.size) : cutsFrom s f pos = [] := by cases f <;> simp [cutsFrom, h]
theorem cutsFrom_step (s : ByteArray) (f pos : Nat) (h : pos < s.size) : cutsFrom s (f + 1) pos = pos :: cutsFrom s f (pos + (Utf8.decode s pos).2) := by rw [cutsFrom, if_pos h]
theorem length_cutsFrom (s : ByteArray) : ∀ f pos, (cutsFrom s f pos).length = Lib.runeCountFrom s f pos
  | 0, _ => rfl
  | f + 1, pos => by
    unfold cutsFrom Lib.runeCountFrom
    split
    · rw [List.length_cons, length_cutsFrom s f, Nat.add_comm]
    · rfl
theorem length_offs (s : ByteArray) : (offs s).length = Lib.runeCount s + 1 := by simp [offs, length_cutsFrom, Lib.runeCount]
theorem offs_le (s : ByteArray) : (offs s).length ≤ s.size + 1 := by have := Lib.runeCount_le s; rw [length_offs]; omega
theorem cutsFrom_mem (s : ByteArray) : ∀ f pos, (cutsFrom s f pos).Pairwise (· < ·) ∧ ∀ x ∈ cutsFrom s f pos, pos ≤ x ∧ x < s.size
  | 0, _ => by simp [cutsFrom]
  | f + 1, pos => by
    unfold cutsFrom
    split
    · rename_i hp
      have hw := Lib.decode_width_pos s pos hp
      have ih := cutsFrom_mem s f (pos + (Utf8.decode s pos).2)
      refine ⟨List.pairwise_cons.2 ⟨fun x hx => by have := ih.2 x hx; omega, ih.1⟩, fun x hx => ?_⟩
      rcases List.mem_cons.1 hx with rfl | hx
      · omega
      · have := ih.2 x hx; omega
    · simp
theorem offs_pair (s : ByteArray) : (offs s).Pairwise (· < ·) := by
  refine List.pairwise_append.2 ⟨(cutsFrom_mem s _ _).1, by simp, fun a ha b hb => ?_⟩
  simp at hb
  subst hb
  exact ((cutsFrom_mem s _ _).2 a ha).2
/-- the place of the k-th rune -/
def O (s : ByteArray) (k : Nat) : Nat := (offs s).getD k 0
def NR (s : ByteArray) : Nat := Lib.runeCount s
theorem offs_len (s : ByteArray) : (offs s).length = NR s + 1 := length_offs s
theorem getD_eq {α : Type} {l : List α} {k : Nat} {d : α} (h : k < l.length) : l.getD k d = l[k] := by simp [List.getD, List.getElem?_eq_getElem h]
theorem O_lt {s : ByteArray} {j k : Nat} (h : j < k) (hk : k ≤ NR s) : O s j < O s k := by
  have hl := offs_len s
  have h1 := List.pairwise_iff_getElem.1 (offs_pair s) j k (by omega) (by omega) h
  unfold O
  rw [getD_eq (by omega), getD_eq (by omega)]
  exact h1
theorem O_le {s : ByteArray} {j k : Nat} (h : j ≤ k) (hk : k ≤ NR s) : O s j ≤ O s k := by
  rcases Nat.lt_or_eq_of_le h with h1 | rfl
  · exact Nat.le_of_lt (O_lt h1 hk)
  · exact Nat.le_refl _
theorem O_last (s : ByteArray) : O s (NR s) = s.size := by
  have : NR s = (cutsFrom s s.size 0).length := (length_cutsFrom s s.size 0).symm
  unfold O offs
  rw [this, getD_eq (by simp)]
  simp
theorem O_size {s : ByteArray} {k : Nat} (hk : k ≤ NR s) : O s k ≤ s.size := by rw [← O_last s]; exact O_le hk (Nat.le_refl _)
theorem O_zero (s : ByteArray) : O s 0 = 0 := by
  unfold O offs
  rcases Nat.eq_zero_or_pos s.size with h | h
  · rw [cutsFrom_end s _ _ (by omega)]; simp [h]
  · obtain ⟨m, hm⟩ : ∃ m, s.size = m + 1 := ⟨s.size - 1, by omega⟩
    rw [show cutsFrom s s.size 0 = cutsFrom s (m + 1) 0 by rw [hm], cutsFrom_step s m 0 h]
    simp
theorem NR_le (s : ByteArray) : NR s ≤ s.size := Lib.runeCount_le s
def sa (N : Nat) (f : Int) : Nat := if f < 0 then (f + N).toNat else min f.toNat N
def sb (N a : Nat) (n : Int) : Nat := if 0 ≤ n then a + min n.toNat (N - a) else if (a : Int) - N < n then (N + n).toNat else a
theorem sa_le (N : Nat) (f : Int) : sa N f ≤ N := by unfold sa; split <;> omega
theorem sb_le {N a : Nat} (h : a ≤ N) (n : Int) : a ≤ sb N a n ∧ sb N a n ≤ N := by unfold sb; split; omega; split <;> omega
/-- the part of s of n runes, from a rune on -/
def slS (s : ByteArray) (f n : Int) : ByteArray := s.extract (O s (sa (NR s) f)) (O s (sb (NR s) (sa (NR s) f) n))
end Go.Proofs.YtiggholdcebjjaaDoor
