/- The script: change, keep. -/
import Derived.Test.YtakbpdlfgjfbeaaDoorD11
namespace Go.Proofs.YtakbpdlfgjfbeaaDoor
open Go.RowKit
set_option linter.unusedSimpArgs false
set_option linter.unusedVariables false

def XS (A1 A2 A3 : Option Addr) (b : Nat) : Prop := A1.map (·.block) = some b ∨ A2.map (·.block) = some b ∨ A3.map (·.block) = some b
/-- block g is a script: its edits, what was deleted, inserted, kept; all rows are the call's own, and apart -/
structure ScrV (w : World) (base g : Nat) (Ae : Option Addr) (ne ce : Nat) (Ad : Option Addr) (nd cd : Nat) (Ai : Option Addr) (ni ci : Nat) (Ak : Option Addr) (nk ck : Nat) (E : List Ed) (D I K : List ByteArray) : Prop where
  gb : base ≤ g
  hp : w.heap[g]? = some (.cells #[.slice Ae ne ce, .slice Ad nd cd, .slice Ai ni ci, .slice Ak nk ck] 57 (0, 0))
  e : OwR (REX (XS Ad Ai Ak)) 2 w base 32 Ae ne ce E
  d : OwR RS 1 w base 9 Ad nd cd D
  i : OwR RS 1 w base 9 Ai ni ci I
  k : OwR RS 1 w base 9 Ak nk ck K
  di : Ne2 Ad Ai
  dk : Ne2 Ad Ak
  ik : Ne2 Ai Ak
def Scr (w : World) (base g : Nat) (E : List Ed) (D I K : List ByteArray) : Prop := ∃ Ae ne ce Ad nd cd Ai ni ci Ak nk ck, ScrV w base g Ae ne ce Ad nd cd Ai ni ci Ak nk ck E D I K

def RScr (w : World) (base g : Nat) (E : List Ed) (D I K : List ByteArray) (e : Ending) (w' : World) : Prop := e = .returned (.tuple #[]) ∧ Scr w' base g E D I K ∧ StrKept w w' ∧ Below base w w'

set_option maxRecDepth 100000 in
set_option maxHeartbeats 4000000 in
theorem keep_any (base g : Nat) (E : List Ed) (D I K : List ByteArray) (w : World) (hs : Scr w base g E D I K) (hE : E.length ≤ 100000) (hK : K.length ≤ 100000) :
    Calls Tryd.prog 35 #[.pointer (some ⟨g, 0, none⟩)] w (RScr w base g (E ++ putI 1 K) D I []) := by
  obtain ⟨Ae, ne, ce, Ad, nd, cd, Ai, ni, ci, Ak, nk, ck, h⟩ := hs
  have HA := Lib.hid (add_any g 1 Ak nk ck K Ae ne ce E (.slice Ad nd cd) (.slice Ai ni ci) (.slice Ak nk ck) (XS Ad Ai none) base w h.hp (OwE.weaken h.e (X' := XS Ad Ai none) (fun b _ hb => by rcases hb with hb | hb | hb; exact Or.inl hb; exact Or.inr (Or.inl hb); simp at hb)) h.k.rd (OwS.ty h.k) (fun ad e1 hx => by
    subst e1
    rcases hx with hx | hx | hx
    · exact h.dk _ hx rfl
    · exact h.ik _ hx rfl
    · simp at hx) h.gb (by rw [h.e.len]; exact hE) (by rw [h.k.len]; exact hK))
  have kc3 := Blk.cell h.hp 3
  have kf := Blk.frozen h.hp
  have HS := Lib.hid h
  clear h
  go_enter Tryd.func35, Tryd.ntmps35
  go_wp2_with fail
  go_at_call 32
  refine HA.out.mono ?_
  rintro e w1 ⟨Ae', ne', ce', rfl, hh, ho, hk, hb⟩
  have lc3 := Blk.cell hh 3
  have lf := Blk.frozen hh
  have HH := Lib.hid hh
  clear hh kc3 kf
  go_wp2_with fail
  go_end0
  have h := HS.out
  have hh := HH.out
  refine ⟨rfl, ⟨Ae', ne', ce', Ad, nd, cd, Ai, ni, ci, none, 0, 0, h.gb, by (focus (repeat' first | with_reducible assumption | (with_reducible refine heap_drew ?_) | (with_reducible refine heap_drewN ?_) | (with_reducible refine heap_new ?_; focus (first | rfl | omega | (simp; done))) | (with_reducible refine heap_old ?_) | (with_reducible apply heap_near') | ((with_reducible show Array.setIfInBounds _ _ _ = _); rfl) | (with_reducible refine heap_far ?_ ?_; focus (first | omega | (simp; omega) | (simp; done))) | (with_reducible apply heap_grown; with_reducible assumption; (focus (first | omega | (simp; omega)))) | (with_reducible apply heap_call; with_reducible assumption))), OwE.set ho hh (by decide) (by decide), OwS.set (OwS.kept h.d hk) hh (by decide), OwS.set (OwS.kept h.i hk) hh (by decide), OwR.nil _ _ _ _ _, h.di, (Ne2.none_ _).symm, (Ne2.none_ _).symm⟩, hk.trans (StrKept.set hh rfl), hb.setCell h.gb _⟩

set_option maxRecDepth 100000 in
set_option maxHeartbeats 4000000 in
theorem change_any (base g : Nat) (E : List Ed) (D I K : List ByteArray) (w : World) (hs : Scr w base g E D I K) (hE : E.length ≤ 90000) (hD : D.length ≤ 100000) (hI : I.length ≤ 100000) :
    Calls Tryd.prog 34 #[.pointer (some ⟨g, 0, none⟩)] w (RScr w base g (E ++ putI 2 D ++ putI 3 I) [] [] K) := by
  obtain ⟨Ae, ne, ce, Ad, nd, cd, Ai, ni, ci, Ak, nk, ck, h⟩ := hs
  have HA := Lib.hid (add_any g 2 Ad nd cd D Ae ne ce E (.slice Ad nd cd) (.slice Ai ni ci) (.slice Ak nk ck) (XS none Ai Ak) base w h.hp (OwE.weaken h.e (X' := XS none Ai Ak) (fun b _ hb => by rcases hb with hb | hb | hb; simp at hb; exact Or.inr (Or.inl hb); exact Or.inr (Or.inr hb))) h.d.rd (OwS.ty h.d) (fun ad e1 hx => by
    subst e1
    rcases hx with hx | hx | hx
    · simp at hx
    · exact h.di.symm _ hx rfl
    · exact h.dk.symm _ hx rfl) h.gb (by rw [h.e.len]; omega) (by rw [h.d.len]; exact hD))
  have kc1 := Blk.cell h.hp 1
  have kf := Blk.frozen h.hp
  have HS := Lib.hid h
  clear h
  go_enter Tryd.func34, Tryd.ntmps34
  go_wp2_with fail
  go_at_call 32
  refine HA.out.mono ?_
  rintro e w1 ⟨Ae', ne', ce', rfl, hh, ho, hk, hb⟩
  have HB := Lib.hid (add_any g 3 Ai ni ci I Ae' ne' ce' (E ++ putI 2 D) (.slice Ad nd cd) (.slice Ai ni ci) (.slice Ak nk ck) (XS none none Ak) base w1 hh (OwE.weaken ho (X' := XS none none Ak) (fun b _ hb => by rcases hb with hb | hb | hb; simp at hb; simp at hb; exact Or.inr (Or.inr hb))) (OwS.kept HS.out.i hk).rd (OwS.ty (OwS.kept HS.out.i hk)) (fun ad e1 hx => by
    subst e1
    rcases hx with hx | hx | hx
    · simp at hx
    · simp at hx
    · exact HS.out.ik.symm _ hx rfl) HS.out.gb (by
      have h1 := ho.len
      have : (putI 2 D).length ≤ 1 := by unfold putI; split <;> simp
      rw [h1, List.length_append]; omega) (by rw [HS.out.i.len]; exact hI))
  have lc2 := Blk.cell hh 2
  have lf := Blk.frozen hh
  clear hh kc1 kf
  go_wp2_with fail
  go_at_call 32
  refine HB.out.mono ?_
  rintro e w2 ⟨Ae2, ne2, ce2, rfl, hh2, ho2, hk2, hb2⟩
  have mc1 := Blk.cell hh2 1
  have mc2 := Blk.cell hh2 2
  have mf := Blk.frozen hh2
  have HH := Lib.hid hh2
  clear hh2 lc2 lf
  go_wp2_with fail
  go_end0
  have h := HS.out
  have hh := HH.out
  have hh2 : (w2.setCell ⟨g, 1, none⟩ (.slice none 0 0)).heap[g]? = some (.cells #[.slice Ae2 ne2 ce2, .slice none 0 0, .slice Ai ni ci, .slice Ak nk ck] 57 (0, 0)) := by (focus (repeat' first | with_reducible assumption | (with_reducible refine heap_drew ?_) | (with_reducible refine heap_drewN ?_) | (with_reducible refine heap_new ?_; focus (first | rfl | omega | (simp; done))) | (with_reducible refine heap_old ?_) | (with_reducible apply heap_near') | ((with_reducible show Array.setIfInBounds _ _ _ = _); rfl) | (with_reducible refine heap_far ?_ ?_; focus (first | omega | (simp; omega) | (simp; done))) | (with_reducible apply heap_grown; with_reducible assumption; (focus (first | omega | (simp; omega)))) | (with_reducible apply heap_call; with_reducible assumption)))
  refine ⟨rfl, ⟨Ae2, ne2, ce2, none, 0, 0, none, 0, 0, Ak, nk, ck, h.gb, by (focus (repeat' first | with_reducible assumption | (with_reducible refine heap_drew ?_) | (with_reducible refine heap_drewN ?_) | (with_reducible refine heap_new ?_; focus (first | rfl | omega | (simp; done))) | (with_reducible refine heap_old ?_) | (with_reducible apply heap_near') | ((with_reducible show Array.setIfInBounds _ _ _ = _); rfl) | (with_reducible refine heap_far ?_ ?_; focus (first | omega | (simp; omega) | (simp; done))) | (with_reducible apply heap_grown; with_reducible assumption; (focus (first | omega | (simp; omega)))) | (with_reducible apply heap_call; with_reducible assumption))), OwE.set (OwE.set ho2 hh (by decide) (by decide)) hh2 (by decide) (by decide), OwR.nil _ _ _ _ _, OwR.nil _ _ _ _ _, OwS.set (OwS.set (OwS.kept (OwS.kept h.k hk) hk2) hh (by decide)) hh2 (by decide), Ne2.none_ _, Ne2.none_ _, Ne2.none_ _⟩, (((hk.trans hk2).trans (StrKept.set hh rfl)).trans (StrKept.set hh2 rfl)), ((hb.trans hb2).setCell h.gb _).setCell h.gb _⟩
end Go.Proofs.YtakbpdlfgjfbeaaDoor
