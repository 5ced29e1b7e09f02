/- Rows of revisions and of changes: of the call's own, and read. -/
import Derived.Test.YtbeijpajodgpeaaDoorCP1
import Derived.Test.YtbeijpajodgpeaaDoorWords2
import Derived.Test.YtbeijpajodgpeaaDoorGr
namespace Go.Proofs.YtbeijpajodgpeaaDoor
open Go.RowKit
set_option linter.unusedSimpArgs false
set_option linter.unusedVariables false

/-- strings and numbers within their types -/
structure RvWf (a : Rv) : Prop where
  num : Lit.wf (.int .i64 a.num) = true
  us : a.us.size ≤ maxLen
  nt : a.nt.size ≤ maxLen
  tx : a.tx.size ≤ maxLen
  mi : Lit.wf (.int .i64 a.mi) = true
  sq : Lit.wf (.int .i64 a.sq) = true
structure CgWf (a : Cg) : Prop where
  kd : Lit.wf (.int .i64 a.kd) = true
  us : a.us.size ≤ maxLen
  nt : a.nt.size ≤ maxLen
  ts : Lit.wf (.int .i64 a.ts) = true
  tn : a.tn.size ≤ maxLen
  os : Lit.wf (.int .i64 a.os) = true
  on : a.on.size ≤ maxLen
  tx : a.tx.size ≤ maxLen
  n : Lit.wf (.int .i64 a.n) = true
  hs : ∀ r ∈ a.hs, RvWf r
def Rv.cells (a : Rv) : List Value := [.int .i64 a.num, .string a.us, .string a.nt, .string a.tx, .int .i64 a.mi, .int .i64 a.sq]
def Rv.val (a : Rv) : Value := .agg #[.int .i64 a.num, .string a.us, .string a.nt, .string a.tx, .int .i64 a.mi, .int .i64 a.sq]
def RV (w : World) (a : Rv) (xs : List Value) : Prop := xs = a.cells
theorem RV.stay : Stay RV 0 := ⟨fun _ _ _ _ _ h => h, fun _ _ _ _ _ _ _ h => h⟩
theorem rev_info : (Tryd.prog.info? 67).map (fun i => (i.zero, i.size, i.bytes)) = some (some rv0.val, 6, 72) := by kernel_rfl
theorem cg_size : (Tryd.prog.info? 31).map (fun i => i.size) = some 10 := by kernel_rfl
theorem RdV.opened {w : World} {A : Option Addr} {n c : Nat} {L : List Rv} (h : RdR RV 6 w A n c L) (hn : 0 < n) :
    ∃ b off, A = some ⟨b, off, none⟩ ∧ b < w.heap.size ∧ ∀ k, k < n → w.cell? ⟨b, off + k * 6, none⟩ = some (.int .i64 (L.getD k rv0).num) ∧ w.cell? ⟨b, off + k * 6 + 1, none⟩ = some (.string (L.getD k rv0).us) ∧ w.cell? ⟨b, off + k * 6 + 2, none⟩ = some (.string (L.getD k rv0).nt) ∧ w.cell? ⟨b, off + k * 6 + 3, none⟩ = some (.string (L.getD k rv0).tx) ∧ w.cell? ⟨b, off + k * 6 + 4, none⟩ = some (.int .i64 (L.getD k rv0).mi) ∧ w.cell? ⟨b, off + k * 6 + 5, none⟩ = some (.int .i64 (L.getD k rv0).sq) := by
  obtain ⟨b, off, e, hb, hc⟩ := h.opened (by omega) hn (fun xs hx h0 => by have := hx.1; rw [h0] at this; simp at this; omega)
  refine ⟨b, off, e, hb, fun k hk => ?_⟩
  have hk2 : k < L.length := by have := h.len; omega
  obtain ⟨cs, hR, hl, hcell⟩ := hc k _ (List.getElem?_eq_getElem hk2)
  have hR' : cs = (L[k]'hk2).cells := hR
  subst hR'
  have e2 : L.getD k rv0 = L[k] := by simp [List.getD, List.getElem?_eq_getElem hk2]
  rw [e2]
  refine ⟨?_, ?_, ?_, ?_, ?_, ?_⟩
  · have := hcell 0 _ rfl; exact this
  · have := hcell 1 _ rfl; rw [← Nat.add_assoc] at this; exact this
  · have := hcell 2 _ rfl; rw [← Nat.add_assoc] at this; exact this
  · have := hcell 3 _ rfl; rw [← Nat.add_assoc] at this; exact this
  · have := hcell 4 _ rfl; rw [← Nat.add_assoc] at this; exact this
  · have := hcell 5 _ rfl; rw [← Nat.add_assoc] at this; exact this
theorem RdV.below {w w' : World} {A : Option Addr} {n c : Nat} {L : List Rv} (h : RdR RV 6 w A n c L) (hb : Below w.heap.size w w') : RdR RV 6 w' A n c L := RdR.below RV.stay h hb
theorem OwV.alloc {w : World} {base e : Nat} {A : Option Addr} {n c : Nat} {L : List Rv} (h : OwR RV 6 w base e A n c L) (o : Obj) : OwR RV 6 (w.alloc o) base e A n c L :=
  h.call RV.stay ((Below.refl _ _).alloc (Nat.le_refl _) _)
/-- what is read stays, where its block stays -/
theorem RdV.kept {w w' : World} {A : Option Addr} {n c : Nat} {L : List Rv} (h : RdR RV 6 w A n c L) (hs : w.heap.size ≤ w'.heap.size) (hk : ∀ ad, A = some ad → w'.heap[ad.block]? = w.heap[ad.block]?) : RdR RV 6 w' A n c L := by
  obtain ⟨xs, h1, h2⟩ := h.reads
  refine ⟨h.len, h.cap, h.max, xs, ⟨h1.1, fun h0 => ?_⟩, h2⟩
  obtain ⟨ad, e1, hb, hc⟩ := h1.2 h0
  refine ⟨ad, e1, Nat.lt_of_lt_of_le hb hs, fun j u hu => ?_⟩
  refine (World.cell?_of_block (w := w) ?_).trans (hc j u hu)
  rw [block_of_add]
  exact hk ad e1
theorem OwV.ty {w : World} {base e : Nat} {A : Option Addr} {n c : Nat} {L : List Rv} (h : OwR RV 6 w base e A n c L) : TyB w e A := by
  intro ad hA
  obtain ⟨xs, h1, h2⟩ := h.own
  rcases h1.2 with ⟨e1, e2⟩ | ⟨g', cap, cur, hv, hb, hh, _⟩
  · injection e1 with e1; rw [e1] at hA; cases hA
  · injection hv with e1
    rw [e1] at hA
    injection hA with hA
    subst hA
    exact ⟨cur, _, hh⟩

/-! ### changes -/
def Cg.cells (a : Cg) (A : Option Addr) (n c : Nat) : List Value := [.int .i64 a.kd, .string a.us, .string a.nt, .int .i64 a.ts, .string a.tn, .int .i64 a.os, .string a.on, .string a.tx, .int .i64 a.n, .slice A n c]
/-- a change that is read -/
def RC (w : World) (a : Cg) (xs : List Value) : Prop := ∃ A n c, xs = a.cells A n c ∧ RdR RV 6 w A n c a.hs
/-- a change in a row that grows: its revisions lie in a block of revisions -/
def RCT (w : World) (a : Cg) (xs : List Value) : Prop := ∃ A n c, xs = a.cells A n c ∧ RdR RV 6 w A n c a.hs ∧ TyB w 67 A
theorem RCT.rc {w : World} {a : Cg} {xs : List Value} (h : RCT w a xs) : RC w a xs := by
  obtain ⟨A, n, c, h1, h2, _⟩ := h
  exact ⟨A, n, c, h1, h2⟩
theorem RC.below {w w' : World} {a : Cg} {xs : List Value} (hb : Below w.heap.size w w') (h : RC w a xs) : RC w' a xs := by
  obtain ⟨A, n, c, h1, h2⟩ := h
  exact ⟨A, n, c, h1, RdV.below h2 hb⟩
theorem RCT.stay : Stay RCT 67 := by
  refine ⟨fun w w' a xs hb h => ?_, fun w w' a xs row hg hr h => ?_⟩
  · obtain ⟨A, n, c, h1, h2, h3⟩ := h
    exact ⟨A, n, c, h1, RdV.below h2 hb, h3.below hb⟩
  · obtain ⟨A, n, c, h1, h2, h3⟩ := h
    obtain ⟨h5, h6⟩ := h3.grown hg hr
    exact ⟨A, n, c, h1, RdV.kept h2 hg.size h6, h5⟩
theorem RdC.below {w w' : World} {A : Option Addr} {n c : Nat} {L : List Cg} (h : RdR RC 10 w A n c L) (hb : Below w.heap.size w w') : RdR RC 10 w' A n c L := by
  obtain ⟨xs, h1, h2⟩ := h.reads
  exact ⟨h.len, h.cap, h.max, xs, (h1.below hb).more hb.size, fun k a hk => (h2 k a hk).below hb⟩
theorem OwC.rd {w : World} {base e : Nat} {A : Option Addr} {n c : Nat} {L : List Cg} (h : OwR RCT 10 w base e A n c L) : RdR RC 10 w A n c L := by
  obtain ⟨xs, h1, h2⟩ := h.own
  exact ⟨h.len, h.cap, h.max, xs, Reads.of_own h1, fun k a hk => (h2 k a hk).rc⟩
/-- the cells of a change at A k -/
def CgAt (w : World) (b o : Nat) (a : Cg) : Prop := ∃ A n c, w.cell? ⟨b, o, none⟩ = some (.int .i64 a.kd) ∧ w.cell? ⟨b, o + 1, none⟩ = some (.string a.us) ∧ w.cell? ⟨b, o + 2, none⟩ = some (.string a.nt) ∧ w.cell? ⟨b, o + 3, none⟩ = some (.int .i64 a.ts) ∧ w.cell? ⟨b, o + 4, none⟩ = some (.string a.tn) ∧ w.cell? ⟨b, o + 5, none⟩ = some (.int .i64 a.os) ∧ w.cell? ⟨b, o + 6, none⟩ = some (.string a.on) ∧ w.cell? ⟨b, o + 7, none⟩ = some (.string a.tx) ∧ w.cell? ⟨b, o + 8, none⟩ = some (.int .i64 a.n) ∧ w.cell? ⟨b, o + 9, none⟩ = some (.slice A n c) ∧ RdR RV 6 w A n c a.hs
theorem RdC.opened {w : World} {A : Option Addr} {n c : Nat} {L : List Cg} (h : RdR RC 10 w A n c L) (hn : 0 < n) :
    ∃ b off, A = some ⟨b, off, none⟩ ∧ b < w.heap.size ∧ ∀ k, k < n → CgAt w b (off + k * 10) (L.getD k cg0) := by
  obtain ⟨b, off, e, hb, hc⟩ := h.opened (by omega) hn (fun xs hx h0 => by have := hx.1; rw [h0] at this; simp at this; omega)
  refine ⟨b, off, e, hb, fun k hk => ?_⟩
  have hk2 : k < L.length := by have := h.len; omega
  obtain ⟨cs, ⟨A', n', c', hR, hrd⟩, hl, hcell⟩ := hc k _ (List.getElem?_eq_getElem hk2)
  subst hR
  have e2 : L.getD k cg0 = L[k] := by simp [List.getD, List.getElem?_eq_getElem hk2]
  rw [e2]
  refine ⟨A', n', c', ?_, ?_, ?_, ?_, ?_, ?_, ?_, ?_, ?_, ?_, hrd⟩
  · have := hcell 0 _ rfl; exact this
  · have := hcell 1 _ rfl; rw [← Nat.add_assoc] at this; exact this
  · have := hcell 2 _ rfl; rw [← Nat.add_assoc] at this; exact this
  · have := hcell 3 _ rfl; rw [← Nat.add_assoc] at this; exact this
  · have := hcell 4 _ rfl; rw [← Nat.add_assoc] at this; exact this
  · have := hcell 5 _ rfl; rw [← Nat.add_assoc] at this; exact this
  · have := hcell 6 _ rfl; rw [← Nat.add_assoc] at this; exact this
  · have := hcell 7 _ rfl; rw [← Nat.add_assoc] at this; exact this
  · have := hcell 8 _ rfl; rw [← Nat.add_assoc] at this; exact this
  · have := hcell 9 _ rfl; rw [← Nat.add_assoc] at this; exact this
end Go.Proofs.YtbeijpajodgpeaaDoor
