/- The script: a line is appended to one of its rows. -/
import Derived.Test.YtakbpdlfgjfbeaaDoorD12
namespace Go.Proofs.YtakbpdlfgjfbeaaDoor
open Go.RowKit
set_option linter.unusedSimpArgs false
set_option linter.unusedVariables false

/-- all blocks stay but scripts, rows of edits, rows of strings -/
def KT (w w' : World) : Prop := ∀ (k : Nat) (cs : Array Value) (t : Nat) (fr : Nat × Nat), w.heap[k]? = some (Obj.cells cs t fr) → t ≠ 57 → t ≠ 32 → t ≠ 9 → w'.heap[k]? = some (Obj.cells cs t fr)
theorem KT.refl (w : World) : KT w w := fun _ _ _ _ h _ _ _ => h
theorem KT.trans {w w1 w2 : World} (h : KT w w1) (h2 : KT w1 w2) : KT w w2 := fun k cs t fr e a b c => h2 k cs t fr (h k cs t fr e a b c) a b c
theorem KT.of {w w' : World} (h : StrKept w w') : KT w w' := fun k cs t fr e a b _ => h.2 k cs t fr e a b
theorem KT.grown {base base' n c : Nat} {w w' : World} {A A' : Option Addr} {L : List ByteArray} (h : OwR RS 1 w base' 9 A n c L) (hg : OwG base w w' A A') : KT w w' := by
  intro k cs t fr e h3 h4 h5
  refine hg.heap (fun ek => ?_) e
  cases A with
  | none => simp at ek
  | some ad =>
    obtain ⟨cs2, fr2, h6⟩ := OwS.ty h ad rfl
    simp at ek
    rw [ek, e] at h6
    injection h6 with h6
    injection h6 with _ h7
    exact h5 h7
theorem ScrV.pushD {w w' : World} {base g : Nat} {Ae : Option Addr} {ne ce : Nat} {Ad : Option Addr} {nd cd : Nat} {Ai : Option Addr} {ni ci : Nat} {Ak : Option Addr} {nk ck : Nat} {E : List Ed} {D I K : List ByteArray}
    (h : ScrV w base g Ae ne ce Ad nd cd Ai ni ci Ak nk ck E D I K) (hb : base ≤ w.heap.size) (o : Obj) {A' : Option Addr} {c' : Nat} {a : ByteArray} (ho : OwR RS 1 w' base 9 A' (nd + 1) c' (D ++ [a])) (hg : OwG base (w.alloc o) w' Ad A') :
    ScrV (w'.setCell ⟨g, 1, none⟩ (.slice A' (nd + 1) c')) base g Ae ne ce A' (nd + 1) c' Ai ni ci Ak nk ck E (D ++ [a]) I K ∧ KT w (w'.setCell ⟨g, 1, none⟩ (.slice A' (nd + 1) c')) ∧ Below base w (w'.setCell ⟨g, 1, none⟩ (.slice A' (nd + 1) c')) := by
  have hal : Below w.heap.size w (w.alloc o) := (Below.refl _ _).alloc (Nat.le_refl _) _
  have hk := h.d.call RS.stay hal
  have hh0 : (w.alloc o).heap[g]? = some (.cells #[.slice Ae ne ce, .slice Ad nd cd, .slice Ai ni ci, .slice Ak nk ck] 57 (0, 0)) := heap_old h.hp
  have hh : w'.heap[g]? = some (.cells #[.slice Ae ne ce, .slice Ad nd cd, .slice Ai ni ci, .slice Ak nk ck] 57 (0, 0)) := hg.heap (OwS.blk_ne hk hh0 (by decide)) hh0
  have hX' : ∀ b, b < (w.alloc o).heap.size → XS A' Ai Ak b → XS Ad Ai Ak b := by
    intro b hlt hx
    have key : ∀ b, b < (w.alloc o).heap.size → A'.map (·.block) = some b → XS Ad Ai Ak b := by
      intro b hlt e
      rcases hg.n with e1 | ⟨k, e1, hk1⟩
      · rw [e1] at e; exact Or.inl e
      · rw [e1] at e; injection e with e; omega
    rcases hx with hx | hx | hx
    · exact key b hlt hx
    · exact Or.inr (Or.inl hx)
    · exact Or.inr (Or.inr hx)
  refine ⟨⟨h.gb, by (focus (repeat' first | with_reducible assumption | (with_reducible refine heap_drew ?_) | (with_reducible refine heap_drewN ?_) | (with_reducible refine heap_new ?_; focus (first | rfl | omega | (simp; done))) | (with_reducible refine heap_old ?_) | (with_reducible apply heap_near') | ((with_reducible show Array.setIfInBounds _ _ _ = _); rfl) | (with_reducible refine heap_far ?_ ?_; focus (first | omega | (simp; omega) | (simp; done))) | (with_reducible apply heap_grown; with_reducible assumption; (focus (first | omega | (simp; omega)))) | (with_reducible apply heap_call; with_reducible assumption))), OwE.set (OwE.other (h.e.call (REX.stay _) hal) (by decide) hg (OwS.ty hk) (fun b e => Or.inl e) hX') hh (by decide) (by decide), OwS.set ho hh (by decide), OwS.set (OwS.other (h.i.call RS.stay hal) hg h.di.symm) hh (by decide), OwS.set (OwS.other (h.k.call RS.stay hal) hg h.dk.symm) hh (by decide), ((h.di.symm).grow hg (h.i.call RS.stay hal)).symm, ((h.dk.symm).grow hg (h.k.call RS.stay hal)).symm, h.ik⟩, ?_, ?_⟩
  · exact ((KT.of (StrKept.alloc w o)).trans (KT.grown hk hg)).trans (KT.of (StrKept.set hh rfl))
  · exact (((Below.refl _ _).alloc hb _).trans hg.b).setCell h.gb _
theorem ScrV.pushI {w w' : World} {base g : Nat} {Ae : Option Addr} {ne ce : Nat} {Ad : Option Addr} {nd cd : Nat} {Ai : Option Addr} {ni ci : Nat} {Ak : Option Addr} {nk ck : Nat} {E : List Ed} {D I K : List ByteArray}
    (h : ScrV w base g Ae ne ce Ad nd cd Ai ni ci Ak nk ck E D I K) (hb : base ≤ w.heap.size) (o : Obj) {A' : Option Addr} {c' : Nat} {a : ByteArray} (ho : OwR RS 1 w' base 9 A' (ni + 1) c' (I ++ [a])) (hg : OwG base (w.alloc o) w' Ai A') :
    ScrV (w'.setCell ⟨g, 2, none⟩ (.slice A' (ni + 1) c')) base g Ae ne ce Ad nd cd A' (ni + 1) c' Ak nk ck E D (I ++ [a]) K ∧ KT w (w'.setCell ⟨g, 2, none⟩ (.slice A' (ni + 1) c')) ∧ Below base w (w'.setCell ⟨g, 2, none⟩ (.slice A' (ni + 1) c')) := by
  have hal : Below w.heap.size w (w.alloc o) := (Below.refl _ _).alloc (Nat.le_refl _) _
  have hk := h.i.call RS.stay hal
  have hh0 : (w.alloc o).heap[g]? = some (.cells #[.slice Ae ne ce, .slice Ad nd cd, .slice Ai ni ci, .slice Ak nk ck] 57 (0, 0)) := heap_old h.hp
  have hh : w'.heap[g]? = some (.cells #[.slice Ae ne ce, .slice Ad nd cd, .slice Ai ni ci, .slice Ak nk ck] 57 (0, 0)) := hg.heap (OwS.blk_ne hk hh0 (by decide)) hh0
  have hX' : ∀ b, b < (w.alloc o).heap.size → XS Ad A' Ak b → XS Ad Ai Ak b := by
    intro b hlt hx
    have key : ∀ b, b < (w.alloc o).heap.size → A'.map (·.block) = some b → XS Ad Ai Ak b := by
      intro b hlt e
      rcases hg.n with e1 | ⟨k, e1, hk1⟩
      · rw [e1] at e; exact Or.inr (Or.inl e)
      · rw [e1] at e; injection e with e; omega
    rcases hx with hx | hx | hx
    · exact Or.inl hx
    · exact key b hlt hx
    · exact Or.inr (Or.inr hx)
  refine ⟨⟨h.gb, by (focus (repeat' first | with_reducible assumption | (with_reducible refine heap_drew ?_) | (with_reducible refine heap_drewN ?_) | (with_reducible refine heap_new ?_; focus (first | rfl | omega | (simp; done))) | (with_reducible refine heap_old ?_) | (with_reducible apply heap_near') | ((with_reducible show Array.setIfInBounds _ _ _ = _); rfl) | (with_reducible refine heap_far ?_ ?_; focus (first | omega | (simp; omega) | (simp; done))) | (with_reducible apply heap_grown; with_reducible assumption; (focus (first | omega | (simp; omega)))) | (with_reducible apply heap_call; with_reducible assumption))), OwE.set (OwE.other (h.e.call (REX.stay _) hal) (by decide) hg (OwS.ty hk) (fun b e => Or.inr (Or.inl e)) hX') hh (by decide) (by decide), OwS.set (OwS.other (h.d.call RS.stay hal) hg h.di) hh (by decide), OwS.set ho hh (by decide), OwS.set (OwS.other (h.k.call RS.stay hal) hg h.ik.symm) hh (by decide), h.di.grow hg (h.d.call RS.stay hal), h.dk, ((h.ik.symm).grow hg (h.k.call RS.stay hal)).symm⟩, ?_, ?_⟩
  · exact ((KT.of (StrKept.alloc w o)).trans (KT.grown hk hg)).trans (KT.of (StrKept.set hh rfl))
  · exact (((Below.refl _ _).alloc hb _).trans hg.b).setCell h.gb _
theorem ScrV.pushK {w w' : World} {base g : Nat} {Ae : Option Addr} {ne ce : Nat} {Ad : Option Addr} {nd cd : Nat} {Ai : Option Addr} {ni ci : Nat} {Ak : Option Addr} {nk ck : Nat} {E : List Ed} {D I K : List ByteArray}
    (h : ScrV w base g Ae ne ce Ad nd cd Ai ni ci Ak nk ck E D I K) (hb : base ≤ w.heap.size) (o : Obj) {A' : Option Addr} {c' : Nat} {a : ByteArray} (ho : OwR RS 1 w' base 9 A' (nk + 1) c' (K ++ [a])) (hg : OwG base (w.alloc o) w' Ak A') :
    ScrV (w'.setCell ⟨g, 3, none⟩ (.slice A' (nk + 1) c')) base g Ae ne ce Ad nd cd Ai ni ci A' (nk + 1) c' E D I (K ++ [a]) ∧ KT w (w'.setCell ⟨g, 3, none⟩ (.slice A' (nk + 1) c')) ∧ Below base w (w'.setCell ⟨g, 3, none⟩ (.slice A' (nk + 1) c')) := by
  have hal : Below w.heap.size w (w.alloc o) := (Below.refl _ _).alloc (Nat.le_refl _) _
  have hk := h.k.call RS.stay hal
  have hh0 : (w.alloc o).heap[g]? = some (.cells #[.slice Ae ne ce, .slice Ad nd cd, .slice Ai ni ci, .slice Ak nk ck] 57 (0, 0)) := heap_old h.hp
  have hh : w'.heap[g]? = some (.cells #[.slice Ae ne ce, .slice Ad nd cd, .slice Ai ni ci, .slice Ak nk ck] 57 (0, 0)) := hg.heap (OwS.blk_ne hk hh0 (by decide)) hh0
  have hX' : ∀ b, b < (w.alloc o).heap.size → XS Ad Ai A' b → XS Ad Ai Ak b := by
    intro b hlt hx
    have key : ∀ b, b < (w.alloc o).heap.size → A'.map (·.block) = some b → XS Ad Ai Ak b := by
      intro b hlt e
      rcases hg.n with e1 | ⟨k, e1, hk1⟩
      · rw [e1] at e; exact Or.inr (Or.inr e)
      · rw [e1] at e; injection e with e; omega
    rcases hx with hx | hx | hx
    · exact Or.inl hx
    · exact Or.inr (Or.inl hx)
    · exact key b hlt hx
  refine ⟨⟨h.gb, by (focus (repeat' first | with_reducible assumption | (with_reducible refine heap_drew ?_) | (with_reducible refine heap_drewN ?_) | (with_reducible refine heap_new ?_; focus (first | rfl | omega | (simp; done))) | (with_reducible refine heap_old ?_) | (with_reducible apply heap_near') | ((with_reducible show Array.setIfInBounds _ _ _ = _); rfl) | (with_reducible refine heap_far ?_ ?_; focus (first | omega | (simp; omega) | (simp; done))) | (with_reducible apply heap_grown; with_reducible assumption; (focus (first | omega | (simp; omega)))) | (with_reducible apply heap_call; with_reducible assumption))), OwE.set (OwE.other (h.e.call (REX.stay _) hal) (by decide) hg (OwS.ty hk) (fun b e => Or.inr (Or.inr e)) hX') hh (by decide) (by decide), OwS.set (OwS.other (h.d.call RS.stay hal) hg h.dk) hh (by decide), OwS.set (OwS.other (h.i.call RS.stay hal) hg h.ik) hh (by decide), OwS.set ho hh (by decide), h.di, h.dk.grow hg (h.d.call RS.stay hal), h.ik.grow hg (h.i.call RS.stay hal)⟩, ?_, ?_⟩
  · exact ((KT.of (StrKept.alloc w o)).trans (KT.grown hk hg)).trans (KT.of (StrKept.set hh rfl))
  · exact (((Below.refl _ _).alloc hb _).trans hg.b).setCell h.gb _
end Go.Proofs.YtakbpdlfgjfbeaaDoor
