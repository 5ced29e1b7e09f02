/- A source at work: worlds out of a world in which only the source's block has turned. -/
import Derived.Test.YtbeijpajodgpeaaDoorSrc
import Derived.Test.YtbeijpajodgpeaaDoorCR
import Derived.Deep.CutBlock
import Derived.Test.YtbeijpajodgpeaaDoorM2
import Derived.Deep.DeepCutAuto
import Derived.Test.YtbeijpajodgpeaaDoorMW
namespace Go.Proofs.YtbeijpajodgpeaaDoor
open Go.RowKit
set_option linter.unusedSimpArgs false
set_option linter.unusedVariables false

theorem below_grown {B g : Nat} {a w w' : World} (h : Below B a w) (hB : B ≤ w.heap.size) (hg : w.grownBy w' (some g)) (hb : B ≤ g) : Below B a w' :=
  h.grown hg hB (fun k hk => by injection hk with hk; omega)
theorem srcAt_lt {w : World} {g : Nat} {A : Option Addr} {n c : Nat} (h : SrcAt w g A n c) : g < w.heap.size := by
  obtain ⟨k, seed, _, hh⟩ := h
  exact Blk.lt hh
theorem srcAt_below {w w' : World} {g : Nat} {A : Option Addr} {n c : Nat} (h : SrcAt w g A n c) (hb : Below w.heap.size w w') : SrcAt w' g A n c := by
  obtain ⟨k, seed, h1, hh⟩ := h
  exact ⟨k, seed, h1, heap_call hb hh⟩
theorem grown_call {w w1 w2 : World} {r : Option Nat} (h : w.grownBy w1 r) (hb : Below w1.heap.size w1 w2) : w.grownBy w2 r :=
  h.trans ⟨hb.os, hb.tape, hb.output, hb.size, fun k hk _ => hb.block k hk⟩
theorem grown_of_below {w w1 : World} (r : Option Nat) (hb : Below w.heap.size w w1) : w.grownBy w1 r := ⟨hb.os, hb.tape, hb.output, hb.size, fun k hk _ => hb.block k hk⟩
/-- a world in which a source is at work, out of the world w -/
structure SW (w0 w W : World) (g : Nat) (A : Option Addr) (n c : Nat) : Prop where
  b : Below w0.heap.size w0 W
  s : SrcAt W g A n c
  gr : w.grownBy W (some g)
theorem SW.call {w0 w W W' : World} {g : Nat} {A : Option Addr} {n c : Nat} (h : SW w0 w W g A n c) (hb : Below W.heap.size W W') : SW w0 w W' g A n c :=
  ⟨below_call h.b hb, srcAt_below h.s hb, grown_call h.gr hb⟩
theorem SW.drew {w0 w W : World} {g : Nat} {A : Option Addr} {n c : Nat} (h : SW w0 w W g A n c) : SW w0 w W.drew g A n c :=
  h.call (bel_out (bel_drew (bel_refl (Nat.le_refl _))))
theorem SW.next {w0 w W W' : World} {g : Nat} {A : Option Addr} {n c : Nat} (h : SW w0 w W g A n c) (hg : w0.heap.size ≤ g) (hs : SrcAt W' g A n c) (hr : W.grownBy W' (some g)) : SW w0 w W' g A n c :=
  ⟨below_grown h.b h.b.size hr hg, hs, h.gr.trans hr⟩
theorem SW.set {w0 w W : World} {g : Nat} {A : Option Addr} {n c : Nat} (h : SW w0 w W g A n c) {p : Addr} (h1 : w.heap.size ≤ p.block) (h2 : w0.heap.size ≤ w.heap.size) (hg : g < w.heap.size) (u : Value) : SW w0 w (W.setCell p u) g A n c := by
  refine ⟨h.b.setCell (by omega) u, ?_, ⟨h.gr.os, h.gr.tape, h.gr.output, by rw [size_set]; exact h.gr.size, fun k hk hne => (Below.heap_setCell W p u k (by omega)).trans (h.gr.block k hk hne)⟩⟩
  obtain ⟨k, seed, h3, hh⟩ := h.s
  exact ⟨k, seed, h3, (Below.heap_setCell W p u g (by omega)).trans hh⟩
/-- a source over the slice, within a world that has grown out of w0 -/
structure SG (w0 W : World) (g : Nat) (A : Option Addr) (n c : Nat) (zs : List Int) : Prop where
  rd : RdN w0 A n c zs
  b : Below w0.heap.size w0 W
  g0 : w0.heap.size ≤ g
  s : SrcAt W g A n c
theorem SG.call {w0 W W' : World} {g n c : Nat} {A : Option Addr} {zs : List Int} (h : SG w0 W g A n c zs) (hb : Below W.heap.size W W') : SG w0 W' g A n c zs := ⟨h.rd, below_call h.b hb, h.g0, srcAt_below h.s hb⟩
theorem SG.drew {w0 W : World} {g n c : Nat} {A : Option Addr} {zs : List Int} (h : SG w0 W g A n c zs) : SG w0 W.drew g A n c zs := h.call (bel_out (bel_drew (bel_refl (Nat.le_refl _))))
theorem SG.next {w0 W W' : World} {g n c : Nat} {A : Option Addr} {zs : List Int} (h : SG w0 W g A n c zs) (hs : SrcAt W' g A n c) (hr : W.grownBy W' (some g)) : SG w0 W' g A n c zs := ⟨h.rd, below_grown h.b h.b.size hr h.g0, h.g0, hs⟩
theorem SG.set {w0 W : World} {g n c q i : Nat} {A : Option Addr} {zs : List Int} (h : SG w0 W g A n c zs) (hq : g ≠ q) (hq0 : w0.heap.size ≤ q) (u : Value) : SG w0 (W.setCell ⟨q, i, none⟩ u) g A n c zs := by
  refine ⟨h.rd, h.b.setCell hq0 u, h.g0, ?_⟩
  obtain ⟨k, seed, h3, hh⟩ := h.s
  exact ⟨k, seed, h3, (heap_set_far _ _ _ _ _ hq).trans hh⟩
theorem SG.lt {w0 W : World} {g n c : Nat} {A : Option Addr} {zs : List Int} (h : SG w0 W g A n c zs) : g < W.heap.size := srcAt_lt h.s
theorem SG.nxt {w0 W : World} {g n c : Nat} {A : Option Addr} {zs : List Int} (h : SG w0 W g A n c zs) (m : Int) (hm : 0 < m) (hm2 : m ≤ 100000) :
    Calls Tryd.prog 26 #[.pointer (some ⟨g, 0, none⟩), .int .i64 m] W (RNext W g A n c m) := next_any w0 g A n c zs m W h.rd h.b h.g0 h.s hm (by omega)
/-- a value that is made with a source: only the source's block has turned -/
def RMk {α : Type} (w0 W : World) (g : Nat) (A : Option Addr) (n c : Nat) (zs : List Int) (val : α → Value) (P : α → Prop) (e : Ending) (W' : World) : Prop := ∃ a, e = .returned (val a) ∧ P a ∧ SG w0 W' g A n c zs ∧ W.grownBy W' (some g)
end Go.Proofs.YtbeijpajodgpeaaDoor
/- The walks of User, Note and piece. Printed by gen_g1.py -/
namespace Go.Proofs.YtbeijpajodgpeaaDoor
open Go.RowKit
set_option linter.unusedSimpArgs false
set_option linter.unusedVariables false

def userL : List ByteArray := [⟨#[97, 110, 110]⟩, ⟨#[98, 111, 98]⟩, ⟨#[]⟩, ⟨#[99, 121]⟩, ⟨#[97, 110, 110]⟩]
def userS (k : Nat) : ByteArray := userL.getD k ⟨#[]⟩
set_option maxRecDepth 100000 in
theorem user_idx {k : Nat} (hk : k < 5) : ∀ W : World, (Instr.index 60 (.agg #[.string ⟨#[97, 110, 110]⟩, .string ⟨#[98, 111, 98]⟩, .string ⟨#[]⟩, .string ⟨#[99, 121]⟩, .string ⟨#[97, 110, 110]⟩]) (.int .i64 (k : Int))).run Tryd.prog W = .ok (.string (userS k)) W := by
  intro W
  rcases k with _ | _ | _ | _ | _ | k <;> first | omega | kernel_rfl
def noteL : List ByteArray := [⟨#[]⟩, ⟨#[110, 111, 116, 101]⟩, ⟨#[97, 95, 98, 32, 126]⟩]
def noteS (k : Nat) : ByteArray := noteL.getD k ⟨#[]⟩
set_option maxRecDepth 100000 in
theorem note_idx {k : Nat} (hk : k < 3) : ∀ W : World, (Instr.index 65 (.agg #[.string ⟨#[]⟩, .string ⟨#[110, 111, 116, 101]⟩, .string ⟨#[97, 95, 98, 32, 126]⟩]) (.int .i64 (k : Int))).run Tryd.prog W = .ok (.string (noteS k)) W := by
  intro W
  rcases k with _ | _ | _ | k <;> first | omega | kernel_rfl
def pieceL : List ByteArray := [⟨#[112, 108, 97, 105, 110, 32, 119, 111, 114, 100, 115, 32]⟩, ⟨#[91, 91, 65, 93, 93, 32]⟩, ⟨#[91, 91, 66, 124, 98, 101, 101, 93, 93, 32]⟩, ⟨#[91, 91, 67, 97, 116, 101, 103, 111, 114, 121, 58, 88, 93, 93]⟩, ⟨#[91, 91, 67, 97, 116, 101, 103, 111, 114, 121, 58, 88, 124, 107, 93, 93]⟩, ⟨#[91, 91, 67, 97, 116, 101, 103, 111, 114, 121, 58, 89, 93, 93]⟩, ⟨#[123, 123, 116, 124, 49, 125, 125]⟩, ⟨#[123, 123, 58, 66, 125, 125, 32]⟩, ⟨#[123, 123, 58, 65, 47, 67, 125, 125]⟩, ⟨#[123, 123, 35, 105, 102, 101, 120, 105, 115, 116, 58, 66, 124, 121, 101, 115, 124, 110, 111, 125, 125, 32]⟩, ⟨#[123, 123, 35, 105, 102, 101, 120, 105, 115, 116, 58, 68, 124, 121, 101, 115, 124, 110, 111, 125, 125]⟩, ⟨#[123, 123, 35, 109, 101, 109, 98, 101, 114, 115, 58, 88, 125, 125, 32]⟩, ⟨#[123, 123, 35, 100, 97, 116, 101, 58, 89, 45, 109, 45, 100, 125, 125, 32]⟩, ⟨#[123, 123, 35, 100, 97, 116, 101, 58, 72, 58, 105, 125, 125, 32]⟩, ⟨#[123, 123, 35, 114, 105, 103, 104, 116, 58, 101, 100, 105, 116, 124, 65, 124, 101, 124, 110, 125, 125, 32]⟩, ⟨#[123, 123, 35, 114, 101, 118, 105, 115, 105, 111, 110, 58, 65, 125, 125, 32]⟩, ⟨#[10, 61, 61, 32, 83, 32, 61, 61, 10, 98, 111, 100, 121, 10]⟩, ⟨#[10, 61, 61, 32, 82, 32, 61, 61, 10, 114, 101, 115, 116, 10]⟩, ⟨#[60, 110, 111, 105, 110, 99, 108, 117, 100, 101, 62, 123, 123, 116, 125, 125, 60, 47, 110, 111, 105, 110, 99, 108, 117, 100, 101, 62]⟩, ⟨#[60, 105, 110, 99, 108, 117, 100, 101, 111, 110, 108, 121, 62, 91, 91, 68, 93, 93, 60, 47, 105, 110, 99, 108, 117, 100, 101, 111, 110, 108, 121, 62]⟩, ⟨#[123, 123, 123, 49, 124, 100, 125, 125, 125, 32]⟩, ⟨#[10, 42, 32, 105, 116, 101, 109, 10]⟩, ⟨#[115, 101, 99, 114, 101, 116, 32]⟩, ⟨#[91, 91, 84, 101, 109, 112, 108, 97, 116, 101, 58, 84, 93, 93]⟩, ⟨#[123, 123, 58, 67, 97, 116, 101, 103, 111, 114, 121, 58, 89, 125, 125]⟩, ⟨#[119, 111, 114, 100, 115, 32, 91, 91, 68, 93, 93, 32, 119, 111, 114, 100, 115]⟩, ⟨#[39, 39, 120, 39, 39, 32]⟩, ⟨#[123, 123, 35, 109, 101, 109, 98, 101, 114, 115, 58, 89, 125, 125]⟩]
def pieceS (k : Nat) : ByteArray := pieceL.getD k ⟨#[]⟩
set_option maxRecDepth 100000 in
theorem piece_idx {k : Nat} (hk : k < 28) : ∀ W : World, (Instr.index 106 (.agg #[.string ⟨#[112, 108, 97, 105, 110, 32, 119, 111, 114, 100, 115, 32]⟩, .string ⟨#[91, 91, 65, 93, 93, 32]⟩, .string ⟨#[91, 91, 66, 124, 98, 101, 101, 93, 93, 32]⟩, .string ⟨#[91, 91, 67, 97, 116, 101, 103, 111, 114, 121, 58, 88, 93, 93]⟩, .string ⟨#[91, 91, 67, 97, 116, 101, 103, 111, 114, 121, 58, 88, 124, 107, 93, 93]⟩, .string ⟨#[91, 91, 67, 97, 116, 101, 103, 111, 114, 121, 58, 89, 93, 93]⟩, .string ⟨#[123, 123, 116, 124, 49, 125, 125]⟩, .string ⟨#[123, 123, 58, 66, 125, 125, 32]⟩, .string ⟨#[123, 123, 58, 65, 47, 67, 125, 125]⟩, .string ⟨#[123, 123, 35, 105, 102, 101, 120, 105, 115, 116, 58, 66, 124, 121, 101, 115, 124, 110, 111, 125, 125, 32]⟩, .string ⟨#[123, 123, 35, 105, 102, 101, 120, 105, 115, 116, 58, 68, 124, 121, 101, 115, 124, 110, 111, 125, 125]⟩, .string ⟨#[123, 123, 35, 109, 101, 109, 98, 101, 114, 115, 58, 88, 125, 125, 32]⟩, .string ⟨#[123, 123, 35, 100, 97, 116, 101, 58, 89, 45, 109, 45, 100, 125, 125, 32]⟩, .string ⟨#[123, 123, 35, 100, 97, 116, 101, 58, 72, 58, 105, 125, 125, 32]⟩, .string ⟨#[123, 123, 35, 114, 105, 103, 104, 116, 58, 101, 100, 105, 116, 124, 65, 124, 101, 124, 110, 125, 125, 32]⟩, .string ⟨#[123, 123, 35, 114, 101, 118, 105, 115, 105, 111, 110, 58, 65, 125, 125, 32]⟩, .string ⟨#[10, 61, 61, 32, 83, 32, 61, 61, 10, 98, 111, 100, 121, 10]⟩, .string ⟨#[10, 61, 61, 32, 82, 32, 61, 61, 10, 114, 101, 115, 116, 10]⟩, .string ⟨#[60, 110, 111, 105, 110, 99, 108, 117, 100, 101, 62, 123, 123, 116, 125, 125, 60, 47, 110, 111, 105, 110, 99, 108, 117, 100, 101, 62]⟩, .string ⟨#[60, 105, 110, 99, 108, 117, 100, 101, 111, 110, 108, 121, 62, 91, 91, 68, 93, 93, 60, 47, 105, 110, 99, 108, 117, 100, 101, 111, 110, 108, 121, 62]⟩, .string ⟨#[123, 123, 123, 49, 124, 100, 125, 125, 125, 32]⟩, .string ⟨#[10, 42, 32, 105, 116, 101, 109, 10]⟩, .string ⟨#[115, 101, 99, 114, 101, 116, 32]⟩, .string ⟨#[91, 91, 84, 101, 109, 112, 108, 97, 116, 101, 58, 84, 93, 93]⟩, .string ⟨#[123, 123, 58, 67, 97, 116, 101, 103, 111, 114, 121, 58, 89, 125, 125]⟩, .string ⟨#[119, 111, 114, 100, 115, 32, 91, 91, 68, 93, 93, 32, 119, 111, 114, 100, 115]⟩, .string ⟨#[39, 39, 120, 39, 39, 32]⟩, .string ⟨#[123, 123, 35, 109, 101, 109, 98, 101, 114, 115, 58, 89, 125, 125]⟩]) (.int .i64 (k : Int))).run Tryd.prog W = .ok (.string (pieceS k)) W := by
  intro W
  rcases k with _ | _ | _ | _ | _ | _ | _ | _ | _ | _ | _ | _ | _ | _ | _ | _ | _ | _ | _ | _ | _ | _ | _ | _ | _ | _ | _ | _ | k <;> first | omega | kernel_rfl
def headL : List ByteArray := [⟨#[66]⟩, ⟨#[65]⟩, ⟨#[84, 101, 109, 112, 108, 97, 116, 101, 58, 84]⟩]
def headS (k : Nat) : ByteArray := headL.getD k ⟨#[]⟩
set_option maxRecDepth 100000 in
theorem head_idx {k : Nat} (hk : k < 3) : ∀ W : World, (Instr.index 65 (.agg #[.string ⟨#[66]⟩, .string ⟨#[65]⟩, .string ⟨#[84, 101, 109, 112, 108, 97, 116, 101, 58, 84]⟩]) (.int .i64 (k : Int))).run Tryd.prog W = .ok (.string (headS k)) W := by
  intro W
  rcases k with _ | _ | _ | k <;> first | omega | kernel_rfl
theorem user_ok {k : Nat} (hk : k < 5) : isUs (userS k) = true ∧ (userS k).size ≤ 3 := by
  rcases k with _ | _ | _ | _ | _ | k <;> first | omega | exact ⟨by kernel_rfl, by decide⟩
theorem size_le {L : List ByteArray} {B : Nat} (h : ∀ s ∈ L, s.size ≤ B) (k : Nat) : (L.getD k ⟨#[]⟩).size ≤ B := by
  rw [List.getD_eq_getElem?_getD]
  cases e : L[k]? with
  | none => exact Nat.zero_le _
  | some s => exact h s (List.mem_of_getElem? e)
theorem note_ok (k : Nat) : (noteS k).size ≤ 5 := size_le (by decide) k
theorem piece_ok (k : Nat) : (pieceS k).size ≤ 40 := size_le (by decide) k
theorem head_ok (k : Nat) : (headS k).size ≤ 10 := size_le (by decide) k
set_option maxRecDepth 100000 in
set_option maxHeartbeats 8000000 in
theorem user_any (w0 : World) (g : Nat) (A : Option Addr) (n c : Nat) (zs : List Int) (W : World) (h : SG w0 W g A n c zs) :
    Calls Tryd.prog 33 #[.pointer (some ⟨g, 0, none⟩)] W (RMk w0 W g A n c zs Value.string fun s => isUs s = true ∧ s.size ≤ 3) := by
  have HN := Lib.hid (h.nxt 5 (by omega) (by omega))
  have HG := Lib.hid h
  clear h
  go_enter Tryd.func33, Tryd.ntmps33
  go_wp2_with fail
  go_at_call 26
  refine HN.out.mono ?_
  rintro e w1 ⟨k, rfl, h0, h1, hs, hg⟩
  have HS := Lib.hid (HG.out.next hs hg)
  clear hs
  obtain ⟨k, rfl⟩ := Int.eq_ofNat_of_zero_le h0
  have hix := user_idx (k := k) (by omega)
  go_wp2_with fail
  go_ret
  exact ⟨_, rfl, user_ok (by omega), HS.out, hg⟩
set_option maxRecDepth 100000 in
set_option maxHeartbeats 8000000 in
theorem note_any (w0 : World) (g : Nat) (A : Option Addr) (n c : Nat) (zs : List Int) (W : World) (h : SG w0 W g A n c zs) :
    Calls Tryd.prog 35 #[.pointer (some ⟨g, 0, none⟩)] W (RMk w0 W g A n c zs Value.string fun s => s.size ≤ 5) := by
  have HN := Lib.hid (h.nxt 3 (by omega) (by omega))
  have HG := Lib.hid h
  clear h
  go_enter Tryd.func35, Tryd.ntmps35
  go_wp2_with fail
  go_at_call 26
  refine HN.out.mono ?_
  rintro e w1 ⟨k, rfl, h0, h1, hs, hg⟩
  have HS := Lib.hid (HG.out.next hs hg)
  clear hs
  obtain ⟨k, rfl⟩ := Int.eq_ofNat_of_zero_le h0
  have hix := note_idx (k := k) (by omega)
  go_wp2_with fail
  go_ret
  exact ⟨_, rfl, note_ok k, HS.out, hg⟩
set_option maxRecDepth 100000 in
set_option maxHeartbeats 8000000 in
theorem piece_any (w0 : World) (g : Nat) (A : Option Addr) (n c : Nat) (zs : List Int) (W : World) (h : SG w0 W g A n c zs) :
    Calls Tryd.prog 53 #[.pointer (some ⟨g, 0, none⟩)] W (RMk w0 W g A n c zs Value.string fun s => s.size ≤ 40) := by
  have HN := Lib.hid (h.nxt 28 (by omega) (by omega))
  have HG := Lib.hid h
  clear h
  go_enter Tryd.func53, Tryd.ntmps53
  go_wp2_with fail
  go_at_call 26
  refine HN.out.mono ?_
  rintro e w1 ⟨k, rfl, h0, h1, hs, hg⟩
  have HS := Lib.hid (HG.out.next hs hg)
  clear hs
  obtain ⟨k, rfl⟩ := Int.eq_ofNat_of_zero_le h0
  have hix := piece_idx (k := k) (by omega)
  go_wp2_with fail
  go_ret
  exact ⟨_, rfl, piece_ok k, HS.out, hg⟩
end Go.Proofs.YtbeijpajodgpeaaDoor
/- The walks of Titles, Title and Text. -/
namespace Go.Proofs.YtbeijpajodgpeaaDoor
open Go.RowKit
set_option linter.unusedSimpArgs false
set_option linter.unusedVariables false

def tcells : Array Value := #[.int .i64 0, .string ⟨#[65]⟩, .int .i64 0, .string ⟨#[66]⟩, .int .i64 0, .string ⟨#[65, 47, 67]⟩, .int .i64 3, .string ⟨#[84]⟩, .int .i64 4, .string ⟨#[88]⟩, .int .i64 4, .string ⟨#[89]⟩, .int .i64 2, .string ⟨#[65, 110, 110]⟩, .int .i64 0, .string ⟨#[68]⟩]
def tS (k : Nat) : Int := ([0, 0, 0, 3, 4, 4, 2, 0] : List Int).getD k 0
def tN (k : Nat) : ByteArray := ([⟨#[65]⟩, ⟨#[66]⟩, ⟨#[65, 47, 67]⟩, ⟨#[84]⟩, ⟨#[88]⟩, ⟨#[89]⟩, ⟨#[65, 110, 110]⟩, ⟨#[68]⟩] : List ByteArray).getD k ⟨#[]⟩
def TitB (w : World) (g : Nat) : Prop := w.heap[g]? = some (.cells tcells 28 (0, 0))
theorem TitB.at {w : World} {g : Nat} (h : TitB w g) {k : Nat} (hk : k < 8) : w.cell? ⟨g, k * 2, none⟩ = some (.int .i64 (tS k)) ∧ w.cell? ⟨g, k * 2 + 1, none⟩ = some (.string (tN k)) := by
  rw [Blk.cell h, Blk.cell h]
  rcases k with _ | _ | _ | _ | _ | _ | _ | _ | k <;> first | exact ⟨rfl, rfl⟩ | omega
theorem tit_ok {k : Nat} (hk : k < 8) : tv (tS k) (tN k) = true := by
  rcases k with _ | _ | _ | _ | _ | _ | _ | _ | k <;> first | omega | kernel_rfl
set_option maxRecDepth 100000 in
set_option maxHeartbeats 4000000 in
theorem titles_any (w : World) : Calls Tryd.prog 52 #[] w fun e w' => ∃ g, e = .returned (.slice (some ⟨g, 0, none⟩) 8 8) ∧ w.heap.size ≤ g ∧ TitB w' g ∧ Below w.heap.size w w' := by
  go_enter Tryd.func52, Tryd.ntmps52
  go_wp2_with fail
  go_ret
  exact ⟨w.heap.size, rfl, Nat.le_refl _, heap_new rfl, (Below.refl _ _).alloc (Nat.le_refl _) _⟩

set_option maxRecDepth 100000 in
set_option maxHeartbeats 8000000 in
theorem title_mk (w0 : World) (g : Nat) (A : Option Addr) (n c : Nat) (zs : List Int) (W : World) (h : SG w0 W g A n c zs) :
    Calls Tryd.prog 34 #[.pointer (some ⟨g, 0, none⟩)] W (RMk w0 W g A n c zs (fun p : Int × ByteArray => .agg #[.int .i64 p.1, .string p.2]) fun p => tv p.1 p.2 = true) := by
  have hgl := h.lt
  have hg0 := h.g0
  have hne : g ≠ W.heap.size := by omega
  have h0 := h.call ((Below.refl _ _).alloc (Nat.le_refl _) (.cells #[.int .i64 0, .string ⟨#[]⟩] 28) : Below W.heap.size W (W.alloc (.cells #[.int .i64 0, .string ⟨#[]⟩] 28)))
  have kb0 : (W.alloc (.cells #[.int .i64 0, .string ⟨#[]⟩] 28)).heap[W.heap.size]? = some (.cells #[.int .i64 0, .string ⟨#[]⟩] 28 (0, 0)) := heap_new rfl
  have hq0 : W.grownBy (W.alloc (.cells #[.int .i64 0, .string ⟨#[]⟩] 28)) (some g) := World.grownBy_alloc W _ _
  have HT := Lib.hid titles_any
  clear h
  go_enter Tryd.func34, Tryd.ntmps34
  go_wp2_with fail
  generalize W.alloc (.cells #[.int .i64 0, .string ⟨#[]⟩] 28) = y0 at *
  go_at_call 52
  refine (HT.out _).mono ?_
  rintro e w1 ⟨gt, rfl, hgt, hT, hb1⟩
  have h1 := h0.call hb1
  have kb1 := heap_call hb1 kb0
  have hq1 := grown_call hq0 hb1
  have hgl0 := h0.lt
  have hbl0 := Blk.lt kb0
  have hne1 : gt ≠ g := by omega
  have hne2 : gt ≠ W.heap.size := by omega
  clear h0 kb0 hq0 hb1 hgt
  go_wp2_with fail
  go_at_call 26
  refine (h1.nxt 8 (by omega) (by omega)).mono ?_
  rintro e w2 ⟨k, rfl, q0, q1, hs, hg⟩
  have h2 := h1.next hs hg
  have kb2 := heap_grown hg hne.symm kb1
  have hT2 : TitB w2 gt := heap_grown hg hne1 hT
  have hq2 := hq1.trans hg
  obtain ⟨k, rfl⟩ := Int.eq_ofNat_of_zero_le q0
  have hk8 : k < 8 := by omega
  obtain ⟨c1, c2⟩ := hT2.at hk8
  have HOK := Lib.hid (tit_ok hk8)
  have kc := Blk.cell kb2
  have kf := Blk.frozen kb2
  have z1 : (k : Int) < 8 := by omega
  have HS := Lib.hid ((h2.set (i := 0) hne (by omega) (.int .i64 (tS k))).set (i := 1) hne (by omega) (.string (tN k)))
  have HQ := Lib.hid (grown_setN (i := 1) (grown_setN (i := 0) hq2 (Nat.le_refl _) (.int .i64 (tS k))) (Nat.le_refl _) (.string (tN k)))
  clear hT hs hg h1 kb1 hq1 hT2 h2 hq2 hk8
  generalize tS k = ts at *
  generalize tN k = tn at *
  go_wp2_with fail
  refine bodyPost_ret (v := .agg #[.int .i64 ts, .string tn]) ?_ rfl ⟨(ts, tn), rfl, HOK.out, HS.out, HQ.out⟩
  simp [results, Tryd.results34, go_sem, kc]

theorem cat_size (a b : ByteArray) : (a ++ b).size = a.size + b.size := by simp
set_option maxRecDepth 100000 in
set_option maxHeartbeats 8000000 in
theorem text_mk (w0 : World) (g : Nat) (A : Option Addr) (n c : Nat) (zs : List Int) (W : World) (h : SG w0 W g A n c zs) :
    Calls Tryd.prog 36 #[.pointer (some ⟨g, 0, none⟩)] W (RMk w0 W g A n c zs Value.string fun s => s.size ≤ 400) := by
  have HN := Lib.hid (h.nxt 12 (by omega) (by omega))
  have HG := Lib.hid h
  clear h
  go_enter Tryd.func36, Tryd.ntmps36
  go_wp2_with fail
  go_at_call 26
  refine HN.out.mono ?_
  rintro e w1 ⟨k, rfl, h0, h1, hs, hg⟩
  have HS := Lib.hid (HG.out.next hs hg)
  clear hs HN HG
  by_cases hk : k = 0
  · subst hk
    go_wp2_with fail
    go_at_call 26
    refine (HS.out.nxt 3 (by omega) (by omega)).mono ?_
    rintro e w2 ⟨k, rfl, h0, h1, hs2, hg2⟩
    have HS2 := Lib.hid (HS.out.next hs2 hg2)
    clear hs2 HS
    obtain ⟨k, rfl⟩ := Int.eq_ofNat_of_zero_le h0
    have hix := head_idx (k := k) (by omega)
    have hsz := head_ok k
    generalize headS k = s at *
    have hg3 := hg.trans hg2
    clear hg hg2
    have hs1 : ¬ (9223372036854775807 < 12 + s.size) := by omega
    have hs2 : ¬ (9223372036854775807 < 12 + s.size + 3) := by omega
    go_wp2_with fail
    go_at_call 26
    refine (HS2.out.nxt 5 (by omega) (by omega)).mono ?_
    rintro e w5 ⟨k5, rfl, h0, h1, hs5, hg5⟩
    have hS5 := HS2.out.next hs5 hg5
    have hg6 := hg3.trans hg5
    obtain ⟨k5, rfl⟩ := Int.eq_ofNat_of_zero_le h0
    clear hs5 hg5
    go_wp2_with fail
    go_loopw [3, 4] (fun a q wr => ∃ (s : ByteArray) (i : Nat), a = .string s ∧ q = .int .i64 i ∧ s.size + 40 * i ≤ 200 ∧ SG w0 wr g A n c zs ∧ W.grownBy wr (some g)) (fun _ q _ => (intOf q).toNat)
    case atStart => exact ⟨_, k5, rfl, rfl, (by rw [cat_size, cat_size]; show 12 + _ + 3 + _ ≤ 200; omega), hS5, hg6⟩
    case round =>
      obtain ⟨s, i, rfl, rfl, hsi, hS, hg⟩ := hrel
      clear hS5 hg6
      cases i with
      | zero =>
        go_wp2_with fail
        go_ret
        exact ⟨s, rfl, by omega, hS, hg⟩
      | succ i =>
        go_wp2_with fail
        go_at_call 53
        refine (piece_any w0 g A n c zs wr hS).mono ?_
        rintro e w7 ⟨s2, rfl, hs2, hS7, hg7⟩
        have hs1 : ¬ (9223372036854775807 < s.size + s2.size) := by omega
        go_wp2_with fail
        go_roundw
        case rel => exact ⟨s ++ s2, i, rfl, by go_num, by rw [cat_size]; omega, hS7, hg.trans hg7⟩
        case measure => simp [intOf]
  · have hk2 : (k == 0) = false := by simpa using hk
    go_wp2_with fail
    go_at_call 26
    refine (HS.out.nxt 5 (by omega) (by omega)).mono ?_
    rintro e w5 ⟨k5, rfl, h0, h1, hs5, hg5⟩
    have hS5 := HS.out.next hs5 hg5
    have hg6 := hg.trans hg5
    obtain ⟨k5, rfl⟩ := Int.eq_ofNat_of_zero_le h0
    clear hs5 hg5
    go_wp2_with fail
    go_loopw [3, 4] (fun a q wr => ∃ (s : ByteArray) (i : Nat), a = .string s ∧ q = .int .i64 i ∧ s.size + 40 * i ≤ 200 ∧ SG w0 wr g A n c zs ∧ W.grownBy wr (some g)) (fun _ q _ => (intOf q).toNat)
    case atStart => exact ⟨_, k5, rfl, rfl, (by show 0 + _ ≤ 200; omega), hS5, hg6⟩
    case round =>
      obtain ⟨s, i, rfl, rfl, hsi, hS, hg⟩ := hrel
      clear hS5 hg6
      cases i with
      | zero =>
        go_wp2_with fail
        go_ret
        exact ⟨s, rfl, by omega, hS, hg⟩
      | succ i =>
        go_wp2_with fail
        go_at_call 53
        refine (piece_any w0 g A n c zs wr hS).mono ?_
        rintro e w7 ⟨s2, rfl, hs2, hS7, hg7⟩
        have hs1 : ¬ (9223372036854775807 < s.size + s2.size) := by omega
        go_wp2_with fail
        go_roundw
        case rel => exact ⟨s ++ s2, i, rfl, by go_num, by rw [cat_size]; omega, hS7, hg.trans hg7⟩
        case measure => simp [intOf]
end Go.Proofs.YtbeijpajodgpeaaDoor
/- The walk of Revisions. -/
namespace Go.Proofs.YtbeijpajodgpeaaDoor
open Go.RowKit
set_option linter.unusedSimpArgs false
set_option linter.unusedVariables false

/-- revisions as they are made -/
structure HK (L : List Rv) (m : Int) : Prop where
  ok : ∀ i, i < L.length → hOk L i = true
  mi : ∀ i, i < L.length → (L.getD i rv0).mi ≤ m
  tx : ∀ r ∈ L, r.tx.size ≤ 400 ∧ r.nt.size ≤ 5
theorem HK.nil (m : Int) : HK [] m := ⟨fun i h => by simp at h, fun i h => by simp at h, fun r h => by cases h⟩
theorem getD_left {L : List Rv} {r : Rv} {i : Nat} (h : i < L.length) : (L ++ [r]).getD i rv0 = L.getD i rv0 := by
  simp only [List.getD, List.getElem?_append_left h]
theorem getD_last {L : List Rv} {r : Rv} : (L ++ [r]).getD L.length rv0 = r := by simp [List.getD]
theorem HK.add {L : List Rv} {m : Int} (h : HK L m) {r : Rv} (h1 : r.num = L.length + 1) (h2 : r.sq = 0) (h3 : isUs r.us = true) (h4 : r.mi = m) (h5 : 0 ≤ m) (h6 : m < 52596000) (h7 : r.tx.size ≤ 400) (h8 : r.nt.size ≤ 5) : HK (L ++ [r]) m := by
  have hlen : (L ++ [r]).length = L.length + 1 := by simp
  refine ⟨fun i hi => ?_, fun i hi => ?_, fun q hq => ?_⟩
  · rcases Nat.lt_or_ge i L.length with hlt | hge
    · have := h.ok i hlt
      have hp : prv (L ++ [r]) i = prv L i := by
        unfold prv
        split
        · rfl
        · rw [getD_left (by omega)]
      unfold hOk at this ⊢
      rw [getD_left hlt, hp]
      exact this
    · obtain rfl : i = L.length := by omega
      have hp : prv (L ++ [r]) L.length ≤ m := by
        unfold prv
        split
        · exact h5
        · rw [getD_left (by omega)]
          exact h.mi _ (by omega)
      unfold hOk
      rw [getD_last, h1, h2, h3, h4]
      simp only [Bool.and_eq_true, decide_eq_true_eq, Bool.true_and, and_true]
      exact ⟨⟨trivial, hp⟩, h6⟩
  · rcases Nat.lt_or_ge i L.length with hlt | hge
    · rw [getD_left hlt]; exact h.mi i hlt
    · obtain rfl : i = L.length := by omega
      rw [getD_last, h4]
      exact Int.le_refl _
  · rcases List.mem_append.1 hq with hq | hq
    · exact h.tx q hq
    · simp only [List.mem_singleton] at hq
      subst hq
      exact ⟨h7, h8⟩
theorem HK.up {L : List Rv} {m m' : Int} (h : HK L m) (hm : m ≤ m') : HK L m' := ⟨h.ok, fun i hi => Int.le_trans (h.mi i hi) hm, h.tx⟩
theorem HK.hst {L : List Rv} {m : Int} (h : HK L m) (h1 : 1 ≤ L.length) (h2 : L.length ≤ 40) : hst L = true := by
  unfold Go.Proofs.YtbeijpajodgpeaaDoor.hst
  rw [decide_eq_true ⟨h1, h2⟩, Bool.true_and]
  exact List.all_eq_true.2 fun i hi => h.ok i (List.mem_range.1 hi)
theorem HK.small {L : List Rv} {m : Int} (h : HK L m) : L.any bigR = false := by
  rw [List.any_eq_false]
  intro r hr
  obtain ⟨h1, h2⟩ := h.tx r hr
  have e1 : decide (8192 < r.tx.size) = false := decide_eq_false (by omega)
  have e2 : decide (200 < r.nt.size) = false := decide_eq_false (by omega)
  simp [bigR, e1, e2]
/-- what Revisions makes -/
def RRevs (w0 W : World) (g : Nat) (A : Option Addr) (n c : Nat) (zs : List Int) (e : Ending) (W' : World) : Prop := ∃ (A1 : Option Addr) (n1 c1 : Nat) (L : List Rv), e = .returned (.slice A1 n1 c1) ∧ OwR RV 6 W' W.heap.size 67 A1 n1 c1 L ∧ hst L = true ∧ L.any bigR = false ∧ L.length ≤ 3 ∧ (∀ r ∈ L, r.tx.size ≤ 400) ∧ SG w0 W' g A n c zs ∧ W.grownBy W' (some g)

set_option maxRecDepth 100000 in
set_option maxHeartbeats 16000000 in
theorem revs_any (w0 : World) (g : Nat) (A : Option Addr) (n c : Nat) (zs : List Int) (ck : Int) (W : World) (h : SG w0 W g A n c zs) (hck : 0 ≤ ck ∧ ck ≤ 8) :
    Calls Tryd.prog 37 #[.pointer (some ⟨g, 0, none⟩), .int .i64 ck] W (RRevs w0 W g A n c zs) := by
  obtain ⟨i0, hi0, hz0, hz1, hz2⟩ := info_parts rev_info
  have hgl := h.lt
  go_enter Tryd.func37, Tryd.ntmps37
  go_wp2_with fail
  go_at_call 26
  refine (h.nxt 3 (by omega) (by omega)).mono ?_
  rintro e w1 ⟨k, rfl, q0, q1, hs, hg⟩
  have hS1 := h.next hs hg
  obtain ⟨k, rfl⟩ := Int.eq_ofNat_of_zero_le q0
  clear hs h
  go_wp2_with fail
  go_loopw [5, 6, 7] (fun a m q wr => ∃ (A1 : Option Addr) (n1 c1 : Nat) (L : List Rv) (mi : Int) (i : Nat), a = .slice A1 n1 c1 ∧ m = .int .i64 mi ∧ q = .int .i64 i ∧ OwR RV 6 wr W.heap.size 67 A1 n1 c1 L ∧ Hid (HK L mi) ∧ 0 ≤ mi ∧ mi ≤ ck ∧ n1 + i ≤ 3 ∧ (n1 + i ≥ 1) ∧ SG w0 wr g A n c zs ∧ W.grownBy wr (some g)) (fun _ _ q _ => (intOf q).toNat)
  case atStart => exact ⟨none, 0, 0, [], 0, k + 1, rfl, rfl, by go_num, OwR.nil _ _ _ _ _, Lib.hid (HK.nil _), Int.le_refl _, hck.1, by omega, by omega, hS1, hg⟩
  case round =>
    obtain ⟨A1, n1, c1, L, mi, i, rfl, rfl, rfl, ho, HKK, hm0, hm1, hn3, hn1, hS, hq⟩ := hrel
    clear hS1 hg
    have HLN := Lib.hid ho.len
    cases i with
    | zero =>
      go_wp2_with fail
      go_ret
      exact ⟨A1, n1, c1, L, rfl, ho, HKK.out.hst (by rw [← HLN.out]; omega) (by rw [← HLN.out]; omega), HKK.out.small, by rw [← HLN.out]; omega, fun r hr => (HKK.out.tx r hr).1, hS, hq⟩
    | succ i =>
      have z1 : (0 : Int) < ((i + 1 : Nat) : Int) := by omega
      go_wp2_with fail
      go_at_call 33
      refine (user_any w0 g A n c zs wr hS).mono ?_
      rintro e w2 ⟨u, rfl, ⟨hu1, hu2⟩, hS2, hg2⟩
      have ho2 := OwV.gr ho hg2 hgl
      have hq2 := hq.trans hg2
      clear hS ho hq hg2
      go_wp2_with fail
      go_at_call 35
      refine (note_any w0 g A n c zs w2 hS2).mono ?_
      rintro e w3 ⟨nt, rfl, hnt, hS3, hg3⟩
      have ho3 := OwV.gr ho2 hg3 hgl
      have hq3 := hq2.trans hg3
      clear hS2 ho2 hq2 hg3
      go_wp2_with fail
      go_at_call 36
      refine (text_mk w0 g A n c zs w3 hS3).mono ?_
      rintro e w4 ⟨tx, rfl, htx, hS4, hg4⟩
      have ho4 := OwV.gr ho3 hg4 hgl
      have hq4 := hq3.trans hg4
      clear hS3 ho3 hq3 hg4
      have hyz := hq4.size
      have hl4 : Below w4.heap.size w4 (w4.alloc (.cells #[.int .i64 ((n1 : Int) + 1), .string u, .string nt, .string tx, .int .i64 mi, .int .i64 0] 67)) := (Below.refl _ _).alloc (Nat.le_refl _) _
      have hol := ho4.call RV.stay hl4
      have HRL := Lib.hid (fun (w : World) => rv_lit (w := w) ⟨(n1 : Int) + 1, u, nt, tx, mi, 0⟩)
      have HK2 : Hid (HK (L ++ [⟨(n1 : Int) + 1, u, nt, tx, mi, 0⟩]) mi) := Lib.hid (HKK.out.add (by rw [← HLN.out]) rfl hu1 rfl hm0 (by omega) htx hnt)
      clear ho4
      go_wp2_with (at_builtin; go_must (refine wpList_append_r _ rfl (.tmp 15) (.tmp 27) 29 rfl 6 72 W.heap.size 67 i0 _ RV.stay (by decide) Tryd.underlying29 hi0 hz0 hz1 hz2 rfl (by omega) A1 n1 c1 L rfl hol (some ⟨w4.heap.size, 0, none⟩) 1 1 rfl [⟨(n1 : Int) + 1, u, nt, tx, mi, 0⟩] _ (Reads.litAt (cs := #[.int .i64 ((n1 : Int) + 1), .string u, .string nt, .string tx, .int .i64 mi, .int .i64 0]) rfl rfl) (HRL.out _) rfl ?_ ?_ ?_ ?_ ?_; (focus (simp [Value.oneCell'])); (focus (unfold maxLen; omega)); (focus omega); (focus (rw [size_alloc_]; omega)); intro A5 c5 w5 ho5 hg5))
      have hS5 : SG w0 w5 g A n c zs := ⟨hS4.rd, (below_call hS4.b hl4).trans (hg5.b.mono (by have := hS4.b.size; have := hS4.g0; omega)), hS4.g0, by
        obtain ⟨k, seed, h3, hh⟩ := hS4.s
        exact ⟨k, seed, h3, (hg5.b.block g hgl).trans (heap_call hl4 hh)⟩⟩
      have hq5 := grown_own (hq4.trans (World.grownBy_alloc w4 _ (some g))) hg5.b
      clear hS4 hol hq4 hg5 hl4
      go_at_call 26
      refine (hS5.nxt 3 (by omega) (by omega)).mono ?_
      rintro e w6 ⟨d, rfl, d0, d1, hs6, hg6⟩
      have hS6 := hS5.next hs6 hg6
      have ho6 := OwV.gr ho5 hg6 hgl
      have hq6 := hq5.trans hg6
      clear hs6 hg6 hS5 ho5 hq5
      by_cases hmin : mi + d < ck
      · go_wp2_with fail
        go_roundw
        case rel => exact ⟨A5, n1 + 1, c5, _, mi + d, i, rfl, (by rw [Int.min_eq_right (by omega)]), by go_num, ho6, Lib.hid (HK2.out.up (by omega)), by omega, by omega, by omega, by omega, hS6, hq6⟩
        case measure => simp [intOf]
      · go_wp2_with fail
        go_roundw
        case rel => exact ⟨A5, n1 + 1, c5, _, ck, i, rfl, (by rw [Int.min_eq_left (by omega)]), by go_num, ho6, Lib.hid (HK2.out.up (by omega)), by omega, by omega, by omega, by omega, hS6, hq6⟩
        case measure => simp [intOf]
end Go.Proofs.YtbeijpajodgpeaaDoor
/- The walk of Change (the generator). -/
namespace Go.Proofs.YtbeijpajodgpeaaDoor
open Go.RowKit
set_option linter.unusedSimpArgs false
set_option linter.unusedVariables false

def kndS (k : Nat) : Int := ([1, 1, 1, 1, 1, 2, 3, 4, 5, 6, 7, 8, 9, 10] : List Int).getD k 0
set_option maxRecDepth 100000 in
theorem knd_idx {k : Nat} (hk : k < 14) : ∀ W : World, (Instr.index 76 (.agg #[.int .i64 1, .int .i64 1, .int .i64 1, .int .i64 1, .int .i64 1, .int .i64 2, .int .i64 3, .int .i64 4, .int .i64 5, .int .i64 6, .int .i64 7, .int .i64 8, .int .i64 9, .int .i64 10]) (.int .i64 (k : Int))).run Tryd.prog W = .ok (.int .i64 (kndS k)) W := by
  intro W
  rcases k with _ | _ | _ | _ | _ | _ | _ | _ | _ | _ | _ | _ | _ | _ | k <;> first | omega | kernel_rfl
theorem knd_ok {k : Nat} (hk : k < 14) : 1 ≤ kndS k ∧ kndS k ≤ 10 := by
  rcases k with _ | _ | _ | _ | _ | _ | _ | _ | _ | _ | _ | _ | _ | _ | k <;> first | omega | exact ⟨by decide, by decide⟩
/-- a change that is made; its revisions are an own row -/
def RMC (w0 W : World) (g : Nat) (A : Option Addr) (n c : Nat) (zs : List Int) (e : Ending) (W' : World) : Prop := ∃ (cg : Cg) (A1 : Option Addr) (n1 c1 : Nat), e = .returned (cval cg A1 n1 c1) ∧ MC cg ∧ OwR RV 6 W' W.heap.size 67 A1 n1 c1 cg.hs ∧ SG w0 W' g A n c zs ∧ W.grownBy W' (some g)

/-! made changes are valid -/
theorem isUs_nil : isUs ⟨#[]⟩ = true := rfl
theorem mc_of {c : Cg} (hv : fV c.kd = true) (h1 : frm c = true) (h2 : rng c = true) (h3 : c.nt.size ≤ 200) (h4 : c.tx.size ≤ 400) (h5 : c.hs.any bigR = false) (h6 : c.hs.length ≤ 3) (h7 : ∀ r ∈ c.hs, r.tx.size ≤ 400) : MC c := by
  refine ⟨?_, h4, h6, h7⟩
  have hb : bigC c = false := by
    have e1 : decide (8192 < c.tx.size) = false := decide_eq_false (by omega)
    have e2 : decide (200 < c.nt.size) = false := decide_eq_false (by omega)
    simp [bigC, e1, e2]
  unfold cv
  rw [hv, h1, h2, hb, h5]
  rfl
theorem mc_put {u nt tn tx : ByteArray} {ts : Int} (hu : isUs u = true) (ht : tv ts tn = true) (h3 : nt.size ≤ 200) (h4 : tx.size ≤ 400) : MC ⟨1, u, nt, ts, tn, 0, ⟨#[]⟩, tx, 0, []⟩ := by
  refine mc_of rfl ?_ ?_ h3 h4 rfl (by simp) (fun r h => by cases h)
  · rfl
  · simp [rng, fT, fO, fK, fH, hu, ht]
theorem mc_prop {u nt tn tx : ByteArray} {ts n : Int} (hu : isUs u = true) (ht : tv ts tn = true) (h3 : nt.size ≤ 200) (h4 : tx.size ≤ 400) (h0 : 0 ≤ n) (h1 : n ≤ 40) : MC ⟨9, u, nt, ts, tn, 0, ⟨#[]⟩, tx, n, []⟩ := by
  refine mc_of rfl ?_ ?_ h3 h4 rfl (by simp) (fun r h => by cases h)
  · rfl
  · simp [rng, fT, fO, fK, fH, hu, ht, loB, hiB, h0, h1]
theorem mc_plain {u tn : ByteArray} {ts k : Int} (hk : k = 2 ∨ k = 3) (hu : isUs u = true) (ht : tv ts tn = true) : MC ⟨k, u, ⟨#[]⟩, ts, tn, 0, ⟨#[]⟩, ⟨#[]⟩, 0, []⟩ := by
  rcases hk with rfl | rfl
  all_goals
    refine mc_of rfl ?_ ?_ (Nat.zero_le _) (Nat.zero_le _) rfl (by simp) (fun r h => by cases h)
    · rfl
    · simp [rng, fT, fO, fK, fH, hu, ht]
theorem mc_watch {u tn : ByteArray} {ts k : Int} (hk : k = 7 ∨ k = 8) (hu : isUs u = true) (hz : u.size ≠ 0) (ht : tv ts tn = true) : MC ⟨k, u, ⟨#[]⟩, ts, tn, 0, ⟨#[]⟩, ⟨#[]⟩, 0, []⟩ := by
  rcases hk with rfl | rfl
  all_goals
    refine mc_of rfl ?_ ?_ (Nat.zero_le _) (Nat.zero_le _) rfl (by simp) (fun r h => by cases h)
    · rfl
    · simp [rng, fT, fO, fK, fH, hu, ht, hz]
theorem mc_move {u tn on : ByteArray} {ts os n : Int} (hu : isUs u = true) (ht : tv ts tn = true) (ho : tv os on = true) (h0 : 0 ≤ n) (h1 : n ≤ 1) : MC ⟨4, u, ⟨#[]⟩, ts, tn, os, on, ⟨#[]⟩, n, []⟩ := by
  refine mc_of rfl ?_ ?_ (Nat.zero_le _) (Nat.zero_le _) rfl (by simp) (fun r h => by cases h)
  · rfl
  · simp [rng, fT, fO, fK, fH, hu, ht, ho, loB, hiB, h0, h1]
theorem mc_import {u tn : ByteArray} {ts : Int} {L : List Rv} (hu : isUs u = true) (ht : tv ts tn = true) (h1 : hst L = true) (h2 : L.any bigR = false) (h3 : L.length ≤ 3) (h4 : ∀ r ∈ L, r.tx.size ≤ 400) : MC ⟨5, u, ⟨#[]⟩, ts, tn, 0, ⟨#[]⟩, ⟨#[]⟩, 0, L⟩ := by
  refine mc_of rfl ?_ ?_ (Nat.zero_le _) (Nat.zero_le _) h2 h3 h4
  · rfl
  · simp [rng, fT, fO, fK, fH, hu, ht, h1]
theorem mc_tick {n : Int} (h0 : 1 ≤ n) (h1 : n ≤ 52596000) : MC ⟨6, ⟨#[]⟩, ⟨#[]⟩, 0, ⟨#[]⟩, 0, ⟨#[]⟩, ⟨#[]⟩, n, []⟩ := by
  refine mc_of rfl ?_ ?_ (Nat.zero_le _) (Nat.zero_le _) rfl (by simp) (fun r h => by cases h)
  · rfl
  · simp [rng, fT, fO, fK, fH, isUs_nil, loB, hiB, h0, h1]
theorem mc_close {u : ByteArray} {n : Int} (hu : isUs u = true) (h0 : 1 ≤ n) (h1 : n ≤ 1073741824) : MC ⟨10, u, ⟨#[]⟩, 0, ⟨#[]⟩, 0, ⟨#[]⟩, ⟨#[]⟩, n, []⟩ := by
  refine mc_of rfl ?_ ?_ (Nat.zero_le _) (Nat.zero_le _) rfl (by simp) (fun r h => by cases h)
  · rfl
  · simp [rng, fT, fO, fK, fH, hu, loB, hiB, h0, h1]
end Go.Proofs.YtbeijpajodgpeaaDoor
