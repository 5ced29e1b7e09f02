/- Plain law of letters and of trimming. -/
import Derived.Lib.SlTrimSet
namespace Go.Proofs.YtiggholdcebjjaaDoor
set_option linter.unusedSimpArgs false
set_option linter.unusedVariables false

/-- a byte in upper or lower case -/
def ch (up : Bool) (c : UInt8) : UInt8 := if up then (if 97 ≤ c.toNat ∧ c.toNat ≤ 122 then UInt8.ofNat (c.toNat - 32) else c) else (if 65 ≤ c.toNat ∧ c.toNat ≤ 90 then UInt8.ofNat (c.toNat + 32) else c)
theorem ch_all : ∀ n : Fin 256, ch false (ch true (UInt8.ofNat n.val)) = ch false (UInt8.ofNat n.val) := by decide +kernel
theorem ch_ch (c : UInt8) : ch false (ch true c) = ch false c := by
  have := ch_all ⟨c.toNat, c.toNat_lt⟩
  simpa using this
theorem ch_toNat (up : Bool) (c : UInt8) : ((ch up c).toNat : Int) = if up then (if 97 ≤ c.toNat ∧ c.toNat ≤ 122 then (c.toNat : Int) - 32 else c.toNat) else (if 65 ≤ c.toNat ∧ c.toNat ≤ 90 then (c.toNat : Int) + 32 else c.toNat) := by
  have hc := c.toNat_lt
  unfold ch
  split
  · split
    · rw [UInt8.toNat_ofNat']; omega
    · rfl
  · split
    · rw [UInt8.toNat_ofNat']; omega
    · rfl
/-- the first n bytes changed -/
def cs (up : Bool) (n : Nat) (l : List UInt8) : List UInt8 := (l.take n).map (ch up) ++ l.drop n
theorem cs_all (up : Bool) (l : List UInt8) : cs up l.length l = l.map (ch up) := by simp [cs]
theorem cs_len (up : Bool) (n : Nat) (l : List UInt8) : (cs up n l).length = l.length := by
  simp [cs]
  omega
theorem cs_zero (up : Bool) (l : List UInt8) : cs up 0 l = l := by simp [cs]
theorem cs_get (up : Bool) {n : Nat} {l : List UInt8} (h : n < l.length) : (cs up n l).getD n 0 = l.getD n 0 := by
  unfold cs
  rw [List.getD_eq_getElem?_getD, List.getElem?_append_right (by simp; omega)]
  simp [Nat.min_eq_left (Nat.le_of_lt h)]
theorem cs_set (up : Bool) {n : Nat} {l : List UInt8} (h : n < l.length) : (cs up n l).set n (ch up (l.getD n 0)) = cs up (n + 1) l := by
  apply List.ext_getElem?
  intro i
  have e : l.getD n 0 = l[n] := by simp [List.getD, List.getElem?_eq_getElem h]
  rw [e]
  by_cases h1 : i = n
  · subst h1
    rw [List.getElem?_set_self (by rw [cs_len]; exact h)]
    unfold cs
    rw [List.getElem?_append_left (by simp; omega)]
    simp [List.getElem?_take, List.getElem?_eq_getElem h]
  · rw [List.getElem?_set_ne (by omega)]
    unfold cs
    rcases Nat.lt_or_ge i n with h2 | h2
    · rw [List.getElem?_append_left (by simp; omega), List.getElem?_append_left (by simp; omega)]
      simp [List.getElem?_take, h2, show i < n + 1 by omega]
    · rw [List.getElem?_append_right (by simp; omega), List.getElem?_append_right (by simp; omega)]
      simp [Nat.min_eq_left (Nat.le_of_lt h), Nat.min_eq_left (show n + 1 ≤ l.length by omega)]
      congr 1
      omega
theorem cs_same (up : Bool) {n : Nat} {l : List UInt8} (h : n < l.length) (hc : ch up (l.getD n 0) = l.getD n 0) : cs up (n + 1) l = cs up n l := by
  rw [← cs_set up h, hc]
  have h2 : n < (cs up n l).length := by rw [cs_len]; exact h
  rw [← cs_get up h]
  simp [List.getD, List.getElem?_eq_getElem h2]
theorem map_low_up (l : List UInt8) : (l.map (ch true)).map (ch false) = l.map (ch false) := by
  rw [List.map_map]
  apply List.map_congr_left
  intro c _
  exact ch_ch c
end Go.Proofs.YtiggholdcebjjaaDoor
