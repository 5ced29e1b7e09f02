/- The script that collects edits: add, change, keep. -/
import Derived.Test.YtakbpdlfgjfbeaaDoorD9
import Derived.Test.YtakbpdlfgjfbeaaDoorTab
import Derived.Test.YtakbpdlfgjfbeaaDoorDP5
namespace Go.Proofs.YtakbpdlfgjfbeaaDoor
open Go.RowKit
set_option linter.unusedSimpArgs false
set_option linter.unusedVariables false

/-- all blocks stay but scripts and rows of edits -/
def StrKept (w w' : World) : Prop := w.heap.size ≤ w'.heap.size ∧ ∀ (k : Nat) (cs : Array Value) (t : Nat) (fr : Nat × Nat), w.heap[k]? = some (Obj.cells cs t fr) → t ≠ 57 → t ≠ 32 → w'.heap[k]? = some (Obj.cells cs t fr)
theorem StrKept.refl (w : World) : StrKept w w := ⟨Nat.le_refl _, fun _ _ _ _ h _ _ => h⟩
theorem StrKept.trans {w w1 w2 : World} (h : StrKept w w1) (h2 : StrKept w1 w2) : StrKept w w2 := ⟨Nat.le_trans h.1 h2.1, fun k cs t fr e h3 h4 => h2.2 k cs t fr (h.2 k cs t fr e h3 h4) h3 h4⟩
theorem OwS.kept {w w' : World} {base : Nat} {A : Option Addr} {n c : Nat} {L : List ByteArray} (h : OwR RS 1 w base 9 A n c L) (hk : StrKept w w') : OwR RS 1 w' base 9 A n c L := by
  obtain ⟨xs, h1, h2⟩ := h.own
  exact ⟨h.len, h.cap, h.max, xs, owns_kept h1 fun g cs a _ => (hk.2 g cs _ _ a (by decide) (by decide)).trans a.symm, h2⟩
theorem StrKept.set {w : World} {g i t : Nat} {u : Value} {cs : Array Value} (hh : w.heap[g]? = some (.cells cs t (0, 0))) (ht : t = 57) : StrKept w (w.setCell ⟨g, i, none⟩ u) := by
  refine ⟨by simp [World.setCell], fun k cs' t' fr e h3 h4 => ?_⟩
  rw [heap_set_far _ _ _ _ _ (fun ek => ?_)]
  · exact e
  · rw [ek, hh] at e
    injection e with e
    injection e with _ e2
    exact h3 (e2.symm.trans ht)
theorem StrKept.alloc (w : World) (o : Obj) : StrKept w (w.alloc o) := ⟨by rw [size_alloc_]; omega, fun k cs t fr e _ _ => heap_old e⟩
theorem StrKept.grown {base : Nat} {w w' : World} {A A' : Option Addr} {X : Nat → Prop} {n c : Nat} {L : List Ed} (h : OwR (REX X) 2 w base 32 A n c L) (hg : OwG base w w' A A') : StrKept w w' := by
  refine ⟨hg.g.size, fun k cs t fr e h3 h4 => hg.heap (fun ek => ?_) e⟩
  obtain ⟨xs, h1, h2⟩ := h.own
  rcases h1.2 with ⟨e1, e2⟩ | ⟨g', cap, cur, hv, hb, hh, _⟩
  · injection e1 with e1; rw [e1] at ek; simp at ek
  · injection hv with e1
    rw [e1] at ek
    have e3 : g' = k := by simpa using ek
    rw [e3, e] at hh
    injection hh with hh
    injection hh with _ h5
    exact h4 h5

/-- a table stays -/
theorem Tab.strKept {w w' : World} {base to_ ti : Nat} {K : IntKind} {B N M : Nat} {b : Nat → Nat} {d : Nat → Prop} {f : Nat → Nat → Nat} (h : Tab w base to_ ti K B N M b d f) (hk : ∀ (k : Nat) (cs : Array Value) (t : Nat) (fr : Nat × Nat), w.heap[k]? = some (Obj.cells cs t fr) → t ≠ 57 → t ≠ 32 → t ≠ 9 → w'.heap[k]? = some (Obj.cells cs t fr))
    (h1 : to_ ≠ 57) (h2 : to_ ≠ 32) (h3 : to_ ≠ 9) (h4 : ti ≠ 57) (h5 : ti ≠ 32) (h6 : ti ≠ 9) : Tab w' base to_ ti K B N M b d f := by
  obtain ⟨o, h7, h8⟩ := h.outer
  exact h.keep ((hk _ _ _ _ h7 h1 h2 h3).trans h7.symm) fun i hi hd => (hk _ _ _ _ (h.rows i hi hd).2.2 h4 h5 h6).trans (h.rows i hi hd).2.2.symm

set_option maxRecDepth 100000 in
set_option maxHeartbeats 4000000 in
theorem add_any (g : Nat) (k : Int) (A : Option Addr) (n c : Nat) (L : List ByteArray) (Ae : Option Addr) (ne ce : Nat) (E : List Ed) (v1 v2 v3 : Value) (X : Nat → Prop) (base : Nat) (w : World)
    (hp : w.heap[g]? = some (.cells #[.slice Ae ne ce, v1, v2, v3] 57 (0, 0))) (hE : OwR (REX X) 2 w base 32 Ae ne ce E) (hL : RdR RS 1 w A n c L) (hT : TyB w 9 A) (hX : ∀ ad, A = some ad → ¬ X ad.block) (hg : base ≤ g) (hne : ne ≤ 100000) (hn : n ≤ 100000) :
    Calls Tryd.prog 32 #[.pointer (some ⟨g, 0, none⟩), .int .i64 k, .slice A n c] w fun e w' => ∃ Ae' ne' ce', e = .returned (.tuple #[]) ∧ w'.heap[g]? = some (.cells #[.slice Ae' ne' ce', v1, v2, v3] 57 (0, 0)) ∧ OwR (REX X) 2 w' base 32 Ae' ne' ce' (E ++ putI k L) ∧ StrKept w w' ∧ Below base w w' := by
  obtain ⟨i1, hi1, hy0, hy1, hy2⟩ := info_parts ed_info
  have hgl := lt_of_heap hp
  have kc0 := Blk.cell hp 0
  have kf := Blk.frozen hp
  have HP := Lib.hid hp
  by_cases h0 : n = 0
  · have hl : L = [] := hL.nil_none h0
    have hd : decide ((0 : Int) < (n : Int)) = false := by rw [h0]; rfl
    have hd2 : decide (0 < n) = false := by rw [h0]; rfl
    have HE := Lib.hid hE
    rw [hl, putI_nil, List.append_nil]
    clear hl hL hE hp kc0 kf hT hX
    replace h0 := Lib.hid h0
    go_enter Tryd.func32, Tryd.ntmps32
    go_wp2
    go_end0
    exact ⟨_, _, _, rfl, HP.out, HE.out, StrKept.refl _, Below.refl _ _⟩
  · have hd : decide ((0 : Int) < (n : Int)) = true := by simp; omega
    have hd2 : decide (0 < n) = true := by simp; omega
    have hl : putI k L = [(k, L)] := by
      unfold putI
      rw [if_neg (fun e => h0 (by rw [hL.len, e]; rfl))]
    rw [hl]
    have HE := Lib.hid hE
    have hal : Below w.heap.size w (w.alloc (.cells #[.int .i64 k, .slice A n c] 32)) := (Below.refl _ _).alloc (Nat.le_refl _) _
    have HEA := Lib.hid (hE.call (REX.stay X) hal)
    have HHA : Hid ((w.alloc (.cells #[.int .i64 k, .slice A n c] 32)).heap[g]? = some (.cells #[.slice Ae ne ce, v1, v2, v3] 57 (0, 0))) := Lib.hid (heap_old hp)
    have HNE := Lib.hid (OwE.blk_ne HEA.out HHA.out (by decide))
    have HFA : Hid (Fits (REX X) 2 (w.alloc (.cells #[.int .i64 k, .slice A n c] 32)) [(k, L)] [.int .i64 k, .slice A n c]) := Lib.hid (Fits.one rfl ⟨A, n, c, rfl, hL.below RS.stay hal, hT.below hal, hX⟩)
    clear hl hL h0 hE hT hX hp hal
    go_enter Tryd.func32, Tryd.ntmps32
    go_wp2_with (first
      | (at_builtin; go_must (refine wpList_append_r _ rfl (.tmp 13) (.tmp 17) 27 rfl 2 32 base 32 i1 (.agg #[.int .i64 0, .slice none 0 0]) (REX.stay X) (by decide) Tryd.underlying27 hi1 hy0 hy1 hy2 rfl (by omega) Ae ne ce E rfl HEA.out (some ⟨w.heap.size, 0, none⟩) 1 1 rfl [(k, L)] [.int .i64 k, .slice A n c] (Reads.lit (cs := #[.int .i64 k, .slice A n c]) rfl) HFA.out rfl ?_ ?_ ?_ ?_ ?_; (focus (simp [Value.oneCell'])); (focus (unfold maxLen; omega)); (focus omega); (focus (rw [size_alloc_]; omega)); intro A5 c5 w3 ho5 hg5; (have hh3 := hg5.heap HNE.out HHA.out); (have kc3 := Blk.cell hh3 0); (have kf3 := Blk.frozen hh3); (have hh3 := Lib.hid hh3); clear kc0 kf)))
    go_end0
    refine ⟨_, _, _, rfl, ?_, OwE.set ho5 hh3.out (by decide) (by decide), ((StrKept.alloc _ _).trans (StrKept.grown HEA.out hg5)).trans (StrKept.set hh3.out rfl), (((Below.refl _ _).alloc (by omega) _).trans hg5.b).setCell hg _⟩
    have hh3' := hh3.out
    (focus (repeat' first | with_reducible assumption | (with_reducible refine heap_drew ?_) | (with_reducible refine heap_drewN ?_) | (with_reducible refine heap_new ?_; focus (first | rfl | omega | (simp; done))) | (with_reducible refine heap_old ?_) | (with_reducible apply heap_near') | ((with_reducible show Array.setIfInBounds _ _ _ = _); rfl) | (with_reducible refine heap_far ?_ ?_; focus (first | omega | (simp; omega) | (simp; done))) | (with_reducible apply heap_grown; with_reducible assumption; (focus (first | omega | (simp; omega)))) | (with_reducible apply heap_call; with_reducible assumption)))
end Go.Proofs.YtakbpdlfgjfbeaaDoor
