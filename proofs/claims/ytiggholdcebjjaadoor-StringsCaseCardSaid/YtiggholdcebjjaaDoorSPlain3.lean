/- Plain law of the strings: all the places one after the other. -/
import Derived.Test.YtiggholdcebjjaaDoorSPlain2
namespace Go.Proofs.YtiggholdcebjjaaDoor
set_option linter.unusedSimpArgs false
set_option linter.unusedVariables false

def occsF (s t : ByteArray) : Nat → Nat → Nat → List Nat
  | 0, _, _ => []
  | f + 1, p, e => if e ≤ O s p ∧ stands s t (O s p) = true then O s p :: occsF s t f (p + 1) (O s p + t.size) else occsF s t f (p + 1) e
/-- the places from rune p on, not before byte e -/
def occsI (s t : ByteArray) (p e : Nat) : List Nat := occsF s t (NR s + 1 - p) p e
/-- the places at which t is found in s one after the other -/
def occs (s t : ByteArray) : List Nat := if t.size = 0 then [] else occsI s t 0 0
section
variable {s t : ByteArray}
theorem occsI_past {p e : Nat} (h : ¬ p < NR s + 1) : occsI s t p e = [] := by
  unfold occsI
  rw [show NR s + 1 - p = 0 by omega]
  rfl
theorem occsI_step {p e : Nat} (h : p < NR s + 1) : occsI s t p e = if e ≤ O s p ∧ stands s t (O s p) = true then O s p :: occsI s t (p + 1) (O s p + t.size) else occsI s t (p + 1) e := by
  unfold occsI
  rw [show NR s + 1 - p = (NR s - p) + 1 by omega, occsF, show NR s + 1 - (p + 1) = NR s - p by omega]
theorem occsI_take {p e : Nat} (h : p < NR s + 1) (h1 : e ≤ O s p) (h2 : stands s t (O s p) = true) : occsI s t p e = O s p :: occsI s t (p + 1) (O s p + t.size) := by
  rw [occsI_step h, if_pos ⟨h1, h2⟩]
theorem occsI_leave {p e : Nat} (h : p < NR s + 1) (h1 : ¬ (e ≤ O s p ∧ stands s t (O s p) = true)) : occsI s t p e = occsI s t (p + 1) e := by
  rw [occsI_step h, if_neg h1]
theorem occsI_skip {p e : Nat} : ∀ d, p + d ≤ NR s + 1 → (∀ q, p ≤ q → q < p + d → O s q < e) → occsI s t p e = occsI s t (p + d) e
  | 0, _, _ => rfl
  | d + 1, h, hn => by
    rw [occsI_skip d (by omega) (fun q h1 h2 => hn q h1 (by omega)), occsI_leave (by omega) (fun h1 => by have := hn (p + d) (by omega) (by omega); omega)]
    rfl
theorem occI_range : ∀ d {j : Nat}, NR s + 1 - j = d → occI s t j = -1 ∨ ∃ p : Nat, occI s t j = (p : Int) ∧ j ≤ p ∧ p < NR s + 1
  | 0, j, h => .inl (occI_past (by omega))
  | d + 1, j, h => by
    cases hs : stands s t (O s j)
    · rw [occI_miss (by omega) hs]
      rcases occI_range d (j := j + 1) (by omega) with h1 | ⟨p, h1, h2, h3⟩
      · exact .inl h1
      · exact .inr ⟨p, h1, by omega, h3⟩
    · exact .inr ⟨j, occI_hit (by omega) hs, Nat.le_refl _, by omega⟩
theorem occsI_occ {e : Nat} : ∀ d {j : Nat}, NR s + 1 - j = d → (∀ p, j ≤ p → p < NR s + 1 → e ≤ O s p) →
    (occI s t j = -1 → occsI s t j e = []) ∧ ∀ p : Nat, occI s t j = (p : Int) → occsI s t j e = O s p :: occsI s t (p + 1) (O s p + t.size)
  | 0, j, h, _ => by
    refine ⟨fun _ => occsI_past (by omega), fun p hp => ?_⟩
    rw [occI_past (by omega)] at hp
    omega
  | d + 1, j, h, he => by
    cases hs : stands s t (O s j)
    · rw [occI_miss (by omega) hs, occsI_leave (by omega) (by rw [hs]; simp)]
      exact occsI_occ d (by omega) (fun p h1 h2 => he p (by omega) h2)
    · rw [occI_hit (by omega) hs, occsI_take (by omega) (he j (Nat.le_refl _) (by omega)) hs]
      refine ⟨fun h1 => by omega, fun p hp => ?_⟩
      obtain rfl : j = p := by omega
      rfl
theorem occs_le : ∀ d {j e : Nat}, NR s + 1 - j = d → (occsI s t j e).length ≤ d
  | 0, j, e, h => by rw [occsI_past (by omega)]; simp
  | d + 1, j, e, h => by
    rw [occsI_step (by omega)]
    split
    · have := occs_le d (j := j + 1) (e := O s j + t.size) (by omega)
      simp; omega
    · have := occs_le d (j := j + 1) (e := e) (by omega)
      omega
theorem length_occs (s t : ByteArray) : (occs s t).length ≤ NR s + 1 := by
  unfold occs
  split
  · simp
  · exact occs_le _ rfl
end
end Go.Proofs.YtiggholdcebjjaaDoor
