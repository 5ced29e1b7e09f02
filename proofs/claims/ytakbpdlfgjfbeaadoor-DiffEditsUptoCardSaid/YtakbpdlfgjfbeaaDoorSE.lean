/- Rows of edits: of the call's own, and read. -/
import Derived.Test.YtakbpdlfgjfbeaaDoorSS
import Derived.Test.YtakbpdlfgjfbeaaDoorWords2
import Derived.Test.YtakbpdlfgjfbeaaDoorDP2
namespace Go.Proofs.YtakbpdlfgjfbeaaDoor
open Go.RowKit
set_option linter.unusedSimpArgs false
set_option linter.unusedVariables false

abbrev Ed := Int × List ByteArray
/-- an edit that is read: its kind, its lines -/
def RE (w : World) (a : Ed) (xs : List Value) : Prop := ∃ A n c, xs = [.int .i64 a.1, .slice A n c] ∧ RdR RS 1 w A n c a.2
/-- an edit in a row that grows: the lines lie in a block of strings, none of those that X names -/
def REX (X : Nat → Prop) (w : World) (a : Ed) (xs : List Value) : Prop := ∃ A n c, xs = [.int .i64 a.1, .slice A n c] ∧ RdR RS 1 w A n c a.2 ∧ TyB w 9 A ∧ ∀ ad, A = some ad → ¬ X ad.block
theorem REX.re {X : Nat → Prop} {w : World} {a : Ed} {xs : List Value} (h : REX X w a xs) : RE w a xs := by
  obtain ⟨A, n, c, h1, h2, _⟩ := h
  exact ⟨A, n, c, h1, h2⟩
theorem TyB.lt {w : World} {t : Nat} {ad : Addr} (h : TyB w t (some ad)) : ad.block < w.heap.size := by
  obtain ⟨cs, fr, h1⟩ := h ad rfl
  rcases Nat.lt_or_ge ad.block w.heap.size with h2 | h2
  · exact h2
  · rw [Array.getElem?_eq_none h2] at h1; cases h1
/-- strings that are read stay, where their block stays -/
theorem RdS.kept {w w' : World} {A : Option Addr} {n c : Nat} {L : List ByteArray} (h : RdR RS 1 w A n c L) (hs : w.heap.size ≤ w'.heap.size) (hk : ∀ ad, A = some ad → w'.heap[ad.block]? = w.heap[ad.block]?) : RdR RS 1 w' A n c L := by
  obtain ⟨xs, h1, h2⟩ := h.reads
  refine ⟨h.len, h.cap, h.max, xs, ⟨h1.1, fun h0 => ?_⟩, h2⟩
  obtain ⟨ad, e1, hb, hc⟩ := h1.2 h0
  refine ⟨ad, e1, Nat.lt_of_lt_of_le hb hs, fun j u hu => ?_⟩
  refine (World.cell?_of_block (w := w) ?_).trans (hc j u hu)
  rw [block_of_add]
  exact hk ad e1
theorem REX.stay (X : Nat → Prop) : Stay (REX X) 9 := by
  refine ⟨fun w w' a xs hb h => ?_, fun w w' a xs row hg hr h => ?_⟩
  · obtain ⟨A, n, c, h1, h2, h3, h4⟩ := h
    exact ⟨A, n, c, h1, h2.below RS.stay hb, h3.below hb, h4⟩
  · obtain ⟨A, n, c, h1, h2, h3, h4⟩ := h
    obtain ⟨h5, h6⟩ := h3.grown hg hr
    exact ⟨A, n, c, h1, RdS.kept h2 hg.size h6, h5, h4⟩
theorem RE.below {w w' : World} {a : Ed} {xs : List Value} (hb : Below w.heap.size w w') (h : RE w a xs) : RE w' a xs := by
  obtain ⟨A, n, c, h1, h2⟩ := h
  exact ⟨A, n, c, h1, h2.below RS.stay hb⟩
/-- edits that are read -/
theorem RdE.below {w w' : World} {A : Option Addr} {n c : Nat} {L : List Ed} (h : RdR RE 2 w A n c L) (hb : Below w.heap.size w w') : RdR RE 2 w' A n c L := by
  obtain ⟨xs, h1, h2⟩ := h.reads
  exact ⟨h.len, h.cap, h.max, xs, (h1.below hb).more hb.size, fun k a hk => (h2 k a hk).below hb⟩
theorem OwE.rd {X : Nat → Prop} {w : World} {base e : Nat} {A : Option Addr} {n c : Nat} {L : List Ed} (h : OwR (REX X) 2 w base e A n c L) : RdR RE 2 w A n c L := by
  obtain ⟨xs, h1, h2⟩ := h.own
  exact ⟨h.len, h.cap, h.max, xs, Reads.of_own h1, fun k a hk => (h2 k a hk).re⟩
/-- the cells of the edits -/
theorem RdE.opened {w : World} {A : Option Addr} {n c : Nat} {L : List Ed} (h : RdR RE 2 w A n c L) (hn : 0 < n) :
    ∃ b off, A = some ⟨b, off, none⟩ ∧ b < w.heap.size ∧ ∀ k a, L[k]? = some a → ∃ A' n' c', w.cell? ⟨b, off + k * 2, none⟩ = some (.int .i64 a.1) ∧ w.cell? ⟨b, off + (k * 2 + 1), none⟩ = some (.slice A' n' c') ∧ RdR RS 1 w A' n' c' a.2 := by
  obtain ⟨b, off, e, hb, hc⟩ := h.opened (by omega) hn (fun xs hx h0 => by have := hx.1; rw [h0] at this; simp at this; omega)
  refine ⟨b, off, e, hb, fun k a hk => ?_⟩
  obtain ⟨cs, ⟨A', n', c', hR, hrd⟩, hl, hcell⟩ := hc k a hk
  subst hR
  exact ⟨A', n', c', by simpa using hcell 0 _ rfl, by simpa using hcell 1 _ rfl, hrd⟩
theorem owns_kept {w w' : World} {base e sz : Nat} {A : Option Addr} {n c : Nat} {xs : List Value} (h1 : w.ownsRow base e sz (.slice A n c) n xs) (hk : ∀ g cs, w.heap[g]? = some (.cells cs e (0, 0)) → A = some ⟨g, 0, none⟩ → w'.heap[g]? = w.heap[g]?) : w'.ownsRow base e sz (.slice A n c) n xs :=
  ⟨h1.1, h1.2.imp id fun ⟨g, cap, cur, a1, a2, a3, r⟩ => ⟨g, cap, cur, a1, a2, (hk g cur a3 (by injection a1)).trans a3, r⟩⟩
/-- the set of blocks may change with a row of strings that grew -/
theorem OwE.other {X X' : Nat → Prop} {w w' : World} {base e : Nat} {A : Option Addr} {n c : Nat} {L : List Ed} {base2 : Nat} {D D' : Option Addr} (h : OwR (REX X) 2 w base e A n c L) (hne : e ≠ 9) (hg : OwG base2 w w' D D') (hT : TyB w 9 D) (hX : ∀ b, D.map (·.block) = some b → X b) (hX' : ∀ b, b < w.heap.size → X' b → X b) : OwR (REX X') 2 w' base e A n c L := by
  obtain ⟨xs, h1, h2⟩ := h.own
  refine ⟨h.len, h.cap, h.max, xs, owns_kept h1 fun g cs a3 _ => (hg.heap ?_ a3).trans a3.symm, fun k a hk => ?_⟩
  · intro e1
    cases D with
    | none => simp at e1
    | some ad =>
      obtain ⟨cs, fr, h3⟩ := hT ad rfl
      simp at e1
      rw [e1, a3] at h3
      injection h3 with h3
      injection h3 with _ h4
      exact hne h4
  · obtain ⟨A', n', c', e1, hrd, hty, hnx⟩ := h2 k a hk
    have hkeep : ∀ ad, A' = some ad → w'.heap[ad.block]? = w.heap[ad.block]? := fun ad e2 => by
      obtain ⟨cs, fr, h3⟩ := hty ad e2
      exact (hg.heap (fun e3 => hnx ad e2 (hX _ e3)) h3).trans h3.symm
    refine ⟨A', n', c', e1, RdS.kept hrd hg.g.size hkeep, fun ad e2 => ?_, fun ad e2 hx => hnx ad e2 (hX' _ ?_ hx)⟩
    · obtain ⟨cs, fr, h3⟩ := hty ad e2
      exact ⟨cs, fr, (hkeep ad e2).trans h3⟩
    · subst e2; exact hty.lt
theorem OwE.weaken {X X' : Nat → Prop} {w : World} {base e : Nat} {A : Option Addr} {n c : Nat} {L : List Ed} (h : OwR (REX X) 2 w base e A n c L) (hX' : ∀ b, b < w.heap.size → X' b → X b) : OwR (REX X') 2 w base e A n c L := by
  obtain ⟨xs, h1, h2⟩ := h.own
  refine ⟨h.len, h.cap, h.max, xs, h1, fun k a hk => ?_⟩
  obtain ⟨A', n', c', e1, hrd, hty, hnx⟩ := h2 k a hk
  exact ⟨A', n', c', e1, hrd, hty, fun ad e2 hx => hnx ad e2 (hX' _ (by subst e2; exact hty.lt) hx)⟩
/-- a block of another type may be stored into -/
theorem OwE.set {X : Nat → Prop} {w : World} {base e : Nat} {A : Option Addr} {n c : Nat} {L : List Ed} (h : OwR (REX X) 2 w base e A n c L) {g i t : Nat} {u : Value} {cs : Array Value} (hh : w.heap[g]? = some (.cells cs t (0, 0))) (ht : t ≠ 9) (hte : t ≠ e) : OwR (REX X) 2 (w.setCell ⟨g, i, none⟩ u) base e A n c L := by
  obtain ⟨xs, h1, h2⟩ := h.own
  refine ⟨h.len, h.cap, h.max, xs, owns_kept h1 fun g' cs a3 _ => Below.heap_setCell w ⟨g, i, none⟩ u g' ?_, fun k a hk => ?_⟩
  · rintro e1
    have e1' : g' = g := e1
    rw [e1', hh] at a3
    injection a3 with a3
    injection a3 with _ h4
    exact hte h4
  · refine (REX.stay X).grown w _ a _ (some g) ⟨rfl, rfl, rfl, by simp [World.setCell], fun k _ hne => Below.heap_setCell w ⟨g, i, none⟩ u k (fun e => hne (by rw [e]))⟩ (fun g' hg => ?_) (h2 k a hk)
    injection hg with hg
    subst hg
    exact ⟨cs, t, hh, ht⟩
theorem OwS.ty {w : World} {base e : Nat} {A : Option Addr} {n c : Nat} {L : List ByteArray} (h : OwR RS 1 w base e A n c L) : TyB w e A := by
  intro ad hA
  obtain ⟨xs, h1, h2⟩ := h.own
  rcases h1.2 with ⟨e1, e2⟩ | ⟨g', cap, cur, hv, hb, hh, _⟩
  · injection e1 with e1; rw [e1] at hA; cases hA
  · injection hv with e1
    rw [e1] at hA
    injection hA with hA
    subst hA
    exact ⟨cur, _, hh⟩
/-- a row of strings, while another grows -/
theorem OwS.other {w w' : World} {base e : Nat} {A : Option Addr} {n c : Nat} {L : List ByteArray} {base2 : Nat} {D D' : Option Addr} (h : OwR RS 1 w base e A n c L) (hg : OwG base2 w w' D D') (hne : ∀ b, A.map (·.block) = some b → D.map (·.block) ≠ some b) : OwR RS 1 w' base e A n c L := by
  obtain ⟨xs, h1, h2⟩ := h.own
  refine ⟨h.len, h.cap, h.max, xs, owns_kept h1 fun g cs a3 ea => (hg.heap (hne g ?_) a3).trans a3.symm, h2⟩
  rw [ea]
  rfl
theorem OwS.set {w : World} {base e : Nat} {A : Option Addr} {n c : Nat} {L : List ByteArray} (h : OwR RS 1 w base e A n c L) {g i t : Nat} {u : Value} {cs : Array Value} (hh : w.heap[g]? = some (.cells cs t (0, 0))) (ht : t ≠ e) : OwR RS 1 (w.setCell ⟨g, i, none⟩ u) base e A n c L := by
  obtain ⟨xs, h1, h2⟩ := h.own
  refine ⟨h.len, h.cap, h.max, xs, owns_kept h1 fun g' cs a3 _ => Below.heap_setCell w ⟨g, i, none⟩ u g' ?_, h2⟩
  rintro e1
  have e1' : g' = g := e1
  rw [e1', hh] at a3
  injection a3 with a3
  injection a3 with _ h4
  exact ht h4
theorem OwS.blk_ne {w : World} {base e : Nat} {A : Option Addr} {n c : Nat} {L : List ByteArray} (h : OwR RS 1 w base e A n c L) {g t : Nat} {cs : Array Value} (hh : w.heap[g]? = some (.cells cs t (0, 0))) (ht : t ≠ e) : A.map (·.block) ≠ some g := by
  cases A with
  | none => simp
  | some ad =>
    intro e1
    simp at e1
    obtain ⟨cs2, fr, h3⟩ := OwS.ty h ad rfl
    rw [e1, hh] at h3
    injection h3 with h3
    injection h3 with _ h4
    exact ht h4
theorem OwE.blk_ne {X : Nat → Prop} {w : World} {base e : Nat} {A : Option Addr} {n c : Nat} {L : List Ed} (h : OwR (REX X) 2 w base e A n c L) {g t : Nat} {cs : Array Value} (hh : w.heap[g]? = some (.cells cs t (0, 0))) (ht : t ≠ e) : A.map (·.block) ≠ some g := by
  obtain ⟨xs, h1, h2⟩ := h.own
  rcases h1.2 with ⟨e1, e2⟩ | ⟨g', cap, cur, hv, hb, hh2, _⟩
  · injection e1 with e1; rw [e1]; simp
  · injection hv with e1
    rw [e1]
    intro e2
    have e3 : g' = g := by simpa using e2
    rw [e3, hh] at hh2
    injection hh2 with hh2
    injection hh2 with _ h4
    exact ht h4
theorem OwE.drewN {X : Nat → Prop} {w : World} {base e : Nat} {A : Option Addr} {n c : Nat} {L : List Ed} (h : OwR (REX X) 2 w base e A n c L) (k : Nat) : OwR (REX X) 2 (w.drewN k) base e A n c L := by
  obtain ⟨xs, h1, h2⟩ := h.own
  refine ⟨h.len, h.cap, h.max, xs, h1, fun j a hj => ?_⟩
  obtain ⟨A', n', c', e1, hrd, hty, hnx⟩ := h2 j a hj
  exact ⟨A', n', c', e1, RdS.kept hrd (Nat.le_refl _) (fun _ _ => rfl), hty, hnx⟩

/-- the edits of plain Lean, as kinds and lines -/
def EI (l : List (Nat × List ByteArray)) : List Ed := l.map fun e => ((e.1 : Int), e.2)
theorem EI_append (a b : List (Nat × List ByteArray)) : EI (a ++ b) = EI a ++ EI b := by simp [EI]
theorem EI_length (a : List (Nat × List ByteArray)) : (EI a).length = a.length := by simp [EI]
theorem EI_put {k : Nat} {l : List ByteArray} : EI (put1 k l) = if l = [] then [] else [((k : Int), l)] := by
  unfold put1
  split <;> simp [EI]
end Go.Proofs.YtakbpdlfgjfbeaaDoor
