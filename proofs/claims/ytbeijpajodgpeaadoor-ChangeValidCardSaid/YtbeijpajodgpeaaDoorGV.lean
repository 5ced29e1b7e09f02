/- Revisions as flat cells. -/
import Derived.Test.YtbeijpajodgpeaaDoorG6
namespace Go.Proofs.YtbeijpajodgpeaaDoor
open Go.RowKit
set_option linter.unusedSimpArgs false
set_option linter.unusedVariables false

def rcells (L : List Rv) : List Value := L.flatMap Rv.cells
theorem rcells_length : ∀ L : List Rv, (rcells L).length = L.length * 6
  | [] => rfl
  | a :: r => by
    have := rcells_length r
    simp only [rcells, List.flatMap_cons, List.length_append, List.length_cons] at this ⊢
    rw [this]
    show 6 + _ = _
    omega
theorem rcells_append (L M : List Rv) : rcells (L ++ M) = rcells L ++ rcells M := by simp [rcells]
theorem rcells_drop : ∀ (k : Nat) (L : List Rv), (rcells L).drop (k * 6) = rcells (L.drop k)
  | 0, L => by simp
  | k + 1, [] => by simp [rcells]
  | k + 1, a :: r => by
    have h := rcells_drop k r
    have e : rcells (a :: r) = a.cells ++ rcells r := by simp [rcells]
    rw [e, List.drop_succ_cons, ← h, List.drop_append]
    have e2 : a.cells.length = 6 := rfl
    rw [List.drop_of_length_le (by rw [e2]; omega), e2, List.nil_append]
    congr 1
    omega
theorem rcells_take : ∀ (k : Nat) (L : List Rv), (rcells L).take (k * 6) = rcells (L.take k)
  | 0, L => by simp [rcells]
  | k + 1, [] => by simp [rcells]
  | k + 1, a :: r => by
    have h := rcells_take k r
    have e : rcells (a :: r) = a.cells ++ rcells r := by simp [rcells]
    rw [e, List.take_succ_cons, show rcells (a :: r.take k) = a.cells ++ rcells (r.take k) by simp [rcells], ← h, List.take_append]
    have e2 : a.cells.length = 6 := rfl
    rw [List.take_of_length_le (by rw [e2]; omega), e2]
    congr 2
    omega
theorem rcells_one (L : List Rv) : ∀ u ∈ rcells L, u.oneCell' = true := by
  intro u hu
  obtain ⟨a, _, h⟩ := List.mem_flatMap.1 hu
  simp [Rv.cells] at h
  rcases h with rfl | rfl | rfl | rfl | rfl | rfl <;> rfl
theorem fits_rcells (w : World) (L : List Rv) : Fits RV 6 w L (rcells L) := by
  intro k a hk
  show _ = a.cells
  obtain ⟨hlt, e⟩ := List.getElem?_eq_some_iff.1 hk
  rw [rcells_drop, List.drop_eq_getElem_cons hlt, e]
  show (a.cells ++ rcells (L.drop (k + 1))).take 6 = _
  rw [List.take_append_of_le_length (by show 6 ≤ 6; omega)]
  rfl
theorem Fits.rcells {w : World} : ∀ {L : List Rv} {xs : List Value}, Fits RV 6 w L xs → xs.length = L.length * 6 → xs = rcells L
  | [], xs, _, hl => by
    have : xs = [] := List.length_eq_zero_iff.1 (by simpa using hl)
    rw [this]; rfl
  | a :: r, xs, h, hl => by
    have h0 : xs.take 6 = a.cells := by simpa using (show ((xs.drop (0 * 6)).take 6) = a.cells from h 0 a rfl)
    have h1 : Fits RV 6 w r (xs.drop 6) := by
      intro k b hk
      have := h (k + 1) b (by simpa using hk)
      rw [List.drop_drop]
      rw [show (k + 1) * 6 = 6 + k * 6 by omega] at this
      exact this
    have h2 := Fits.rcells h1 (by rw [List.length_drop, hl, List.length_cons]; omega)
    have h3 := List.take_append_drop 6 xs
    rw [h0, h2] at h3
    rw [← h3]
    simp [Go.Proofs.YtbeijpajodgpeaaDoor.rcells]
theorem OwW.vals {w : World} {base e n c : Nat} {A : Option Addr} {L : List Rv} (h : OwR RV 6 w base e A n c L) : w.ownsRow base e 6 (.slice A n c) n (rcells L) := by
  obtain ⟨xs, h1, h2⟩ := h.own
  have : xs = rcells L := Fits.rcells h2 (by rw [h1.1, h.len])
  rw [← this]
  exact h1
theorem OwW.of_vals {w : World} {base e n : Nat} {v : Value} {L : List Rv} (h : w.ownsRow base e 6 v n (rcells L)) : ∃ A c, v = .slice A n c ∧ OwR RV 6 w base e A n c L := by
  obtain ⟨A, c, rfl, h1, h2⟩ := own_shape h
  refine ⟨A, c, rfl, ⟨by have := h.1; rw [rcells_length] at this; omega, h1, h2, _, h, fits_rcells w L⟩⟩
theorem RdW.vals {w : World} {A : Option Addr} {n c : Nat} {L : List Rv} (h : RdR RV 6 w A n c L) : Reads w w.heap.size 6 A n (rcells L) := by
  obtain ⟨xs, h1, h2⟩ := h.reads
  have : xs = rcells L := Fits.rcells h2 (by rw [h1.1, h.len])
  rw [← this]
  exact h1
theorem RdW.of_vals {w : World} {A : Option Addr} {n c : Nat} {L : List Rv} (hl : n = L.length) (hc : n ≤ c) (hm : c ≤ maxLen) (h : Reads w w.heap.size 6 A n (rcells L)) : RdR RV 6 w A n c L :=
  ⟨hl, hc, hm, _, h, fits_rcells w L⟩
theorem rcells_set : ∀ (j : Nat) (L : List Rv) (r : Rv), j < L.length → (((((((rcells L).set (j * 6) (.int .i64 r.num)).set (j * 6 + 1) (.string r.us)).set (j * 6 + 2) (.string r.nt)).set (j * 6 + 3) (.string r.tx)).set (j * 6 + 4) (.int .i64 r.mi)).set (j * 6 + 5) (.int .i64 r.sq)) = rcells (L.set j r)
  | _, [], _, h => by simp at h
  | 0, a :: t, r, _ => by simp [rcells, Rv.cells]
  | j + 1, a :: t, r, h => by
    have ih := rcells_set j t r (by simpa using h)
    have e : rcells (a :: t) = a.cells ++ rcells t := by simp [rcells]
    have e2 : rcells ((a :: t).set (j + 1) r) = a.cells ++ rcells (t.set j r) := by simp [rcells]
    have e3 : a.cells.length = 6 := rfl
    rw [e, e2, ← ih]
    have hh : ∀ (l : List Value) (i : Nat) (v : Value), (a.cells ++ l).set ((j + 1) * 6 + i) v = a.cells ++ l.set (j * 6 + i) v := by
      intro l i v
      rw [List.set_append_right _ _ (by rw [e3]; omega), e3]
      congr 2
      omega
    have h0 : ∀ (l : List Value) (v : Value), (a.cells ++ l).set ((j + 1) * 6) v = a.cells ++ l.set (j * 6) v := fun l v => hh l 0 v
    rw [h0, hh, hh, hh, hh, hh]
theorem OwW.stored6 {w : World} {base e g n c : Nat} {L : List Rv} (h : OwR RV 6 w base e (some ⟨g, 0, none⟩) n c L) (j : Nat) (hj : j < L.length) (r : Rv) : OwR RV 6 ((((((w.setCell ⟨g, j * 6, none⟩ (.int .i64 r.num)).setCell ⟨g, j * 6 + 1, none⟩ (.string r.us)).setCell ⟨g, j * 6 + 2, none⟩ (.string r.nt)).setCell ⟨g, j * 6 + 3, none⟩ (.string r.tx)).setCell ⟨g, j * 6 + 4, none⟩ (.int .i64 r.mi)).setCell ⟨g, j * 6 + 5, none⟩ (.int .i64 r.sq)) base e (some ⟨g, 0, none⟩) n c (L.set j r) := by
  have h0 := OwW.vals h
  have h1 := (World.ownsRow.stored h0 (j * 6) (.int .i64 r.num)).1
  have h2 := (World.ownsRow.stored h1 (j * 6 + 1) (.string r.us)).1
  have h3 := (World.ownsRow.stored h2 (j * 6 + 2) (.string r.nt)).1
  have h4 := (World.ownsRow.stored h3 (j * 6 + 3) (.string r.tx)).1
  have h5 := (World.ownsRow.stored h4 (j * 6 + 4) (.int .i64 r.mi)).1
  have h6 := (World.ownsRow.stored h5 (j * 6 + 5) (.int .i64 r.sq)).1
  rw [rcells_set j L r hj] at h6
  exact ⟨by rw [List.length_set]; exact h.len, h.cap, h.max, _, h6, fits_rcells _ _⟩
end Go.Proofs.YtbeijpajodgpeaaDoor
