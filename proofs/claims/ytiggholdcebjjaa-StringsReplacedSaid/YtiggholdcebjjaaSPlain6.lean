/- Plain law of the strings: what a replacement makes. -/
import Derived.Test.YtiggholdcebjjaaSPlain4
namespace Go.Proofs.Ytiggholdcebjjaa
set_option linter.unusedSimpArgs false
set_option linter.unusedVariables false

/-- the first k occurrences replaced, up to the end of the k-th -/
def rp (s t u : ByteArray) : Nat → ByteArray
  | 0 => ByteArray.empty
  | k + 1 => rp s t u k ++ s.extract (lo s t k) (hi s t k) ++ u
def rpAll (s t u : ByteArray) (K : Nat) : ByteArray := rp s t u K ++ s.extract (lo s t K) s.size
/-- how many are replaced -/
def rpK (s t : ByteArray) (most : Int) : Nat := if 0 ≤ most ∧ most < (NO s t : Int) then most.toNat else NO s t
section
variable {s t u : ByteArray}
theorem rpK_le {most : Int} : rpK s t most ≤ NO s t := by unfold rpK; split <;> omega
theorem size_rp : ∀ {k : Nat}, k ≤ NO s t → (rp s t u k).size + k * t.size = lo s t k + k * u.size
  | 0, _ => by simp [rp, lo_zero]
  | k + 1, h => by
    have ih := size_rp (k := k) (by omega)
    have h1 := lo_le (s := s) (t := t) (i := k) (by omega)
    have h2 := hi_size (s := s) (t := t) (i := k) (by omega)
    have h3 := lo_hi (s := s) (t := t) (i := k) (by omega)
    show (rp s t u k ++ s.extract (lo s t k) (hi s t k) ++ u).size + (k + 1) * t.size = _
    rw [ByteArray.size_append, ByteArray.size_append, ext_size s h2, Nat.add_mul, Nat.add_mul, Nat.one_mul, Nat.one_mul]
    omega
theorem size_rpAll {K : Nat} (h : K ≤ NO s t) : (rpAll s t u K).size + K * t.size = s.size + K * u.size := by
  have h1 := size_rp (u := u) h
  have h2 := lo_size h
  unfold rpAll
  rw [ByteArray.size_append, ext_size s (Nat.le_refl _)]
  omega
theorem size_rpAll_int {K : Nat} (h : K ≤ NO s t) : ((rpAll s t u K).size : Int) = (s.size : Int) + (K : Int) * ((u.size : Int) - (t.size : Int)) := by
  have h1 := size_rpAll (u := u) h
  have h2 : ((rpAll s t u K).size : Int) + (K : Int) * (t.size : Int) = (s.size : Int) + (K : Int) * (u.size : Int) := by exact_mod_cast h1
  rw [Int.mul_sub]
  omega
theorem rp_step {k : Nat} : (rp s t u k).size ≤ (rp s t u (k + 1)).size := by
  show _ ≤ (rp s t u k ++ s.extract (lo s t k) (hi s t k) ++ u).size
  rw [ByteArray.size_append, ByteArray.size_append]
  omega
theorem rp_mono {k : Nat} : ∀ d, (rp s t u k).size ≤ (rp s t u (k + d)).size
  | 0 => Nat.le_refl _
  | d + 1 => Nat.le_trans (rp_mono d) (rp_step (k := k + d))
theorem rp_le_all {k K : Nat} (h : k ≤ K) : (rp s t u k).size ≤ (rpAll s t u K).size := by
  obtain ⟨d, rfl⟩ : ∃ d, k + d = K := ⟨K - k, by omega⟩
  unfold rpAll
  rw [ByteArray.size_append]
  have := rp_mono (s := s) (t := t) (u := u) (k := k) d
  omega
theorem rp_self : ∀ {k : Nat}, k ≤ NO s t → rp s t t k = s.extract 0 (lo s t k)
  | 0, _ => by
    rw [lo_zero]
    apply ByteArray.ext
    simp [rp]
  | k + 1, h => by
    have h1 := lo_le (s := s) (t := t) (i := k) (by omega)
    have h3 := lo_hi (s := s) (t := t) (i := k) (by omega)
    have e := hi_ext (s := s) (t := t) (i := k) (by omega)
    show rp s t t k ++ s.extract (lo s t k) (hi s t k) ++ t = _
    rw [rp_self (by omega), ext_cat s (Nat.zero_le _) h1]
    calc s.extract 0 (hi s t k) ++ t = s.extract 0 (hi s t k) ++ s.extract (hi s t k) (lo s t (k + 1)) := by rw [e]
      _ = _ := by rw [ext_cat s (Nat.zero_le _) (by omega)]
theorem rpAll_self {K : Nat} (h : K ≤ NO s t) : rpAll s t t K = s := by
  unfold rpAll
  rw [rp_self h, ext_cat2 s (lo_size h)]
theorem rpAll_zero : rpAll s t u 0 = s := by
  unfold rpAll
  rw [lo_zero, ext_whole]
  show ByteArray.empty ++ s = s
  apply ByteArray.ext
  simp
theorem rpK_neg : rpK s t (-1) = NO s t := by unfold rpK; rw [if_neg (by omega)]
theorem rpK_zero : rpK s t 0 = 0 := by unfold rpK; split <;> omega
theorem rp_assoc (a b c : ByteArray) : a ++ (b ++ c) = a ++ b ++ c := by
  apply ByteArray.ext
  simp
end
end Go.Proofs.Ytiggholdcebjjaa
