/- Rows of ints: of the call's own, and read. -/
import Derived.Test.YtobgnncdldfkkaaDoorGr
import Derived.Test.YtobgnncdldfkkaaDoorProg
import Derived.WalkSmall
import Derived.Lib.OthersKept
import Derived.Lib.RuneCount
import Derived.Deep.LoopGhost
import Derived.BigQuiet
import Derived.Deep.QuietTactic
namespace Go.Proofs.YtobgnncdldfkkaaDoor
open Go.RowKit
set_option linter.unusedSimpArgs false
set_option linter.unusedVariables false

def RI (w : World) (a : Nat) (xs : List Value) : Prop := xs = [.int .i64 (a : Int)]
theorem RI.stay : Stay RI 0 := ⟨fun _ _ _ _ _ h => h, fun _ _ _ _ _ _ _ h => h⟩
theorem int_info : (Tryd.prog.info? 3).map (fun i => (i.zero, i.size, i.bytes)) = some (some (.int .i64 0), 1, 8) := by kernel_rfl
theorem RdI.opened {w : World} {A : Option Addr} {n c : Nat} {L : List Nat} (h : RdR RI 1 w A n c L) (hn : 0 < n) :
    ∃ b off, A = some ⟨b, off, none⟩ ∧ b < w.heap.size ∧ ∀ k, k < n → w.cell? ⟨b, off + k, none⟩ = some (.int .i64 ((L.getD k 0 : Nat) : Int)) := by
  obtain ⟨b, off, e, hb, hc⟩ := h.opened (by omega) hn (fun xs hx h0 => by have := hx.1; rw [h0] at this; simp at this; omega)
  refine ⟨b, off, e, hb, fun k hk => ?_⟩
  have hk2 : k < L.length := by have := h.len; omega
  obtain ⟨cs, hR, hl, hcell⟩ := hc k _ (List.getElem?_eq_getElem hk2)
  have hR' : cs = [.int .i64 ((L[k]'hk2 : Nat) : Int)] := hR
  subst hR'
  have := hcell 0 _ rfl
  have e2 : L.getD k 0 = L[k] := by simp [List.getD, List.getElem?_eq_getElem hk2]
  rw [e2]
  simpa using this
theorem OwI.iter {w : World} {base e : Nat} {A : Option Addr} {n c : Nat} {L : List Nat} (h : OwR RI 1 w base e A n c L) {k : Nat} (hk : k < base) (s : ByteArray) (p : Nat) : OwR RI 1 (w.iterAt k s p) base e A n c L := by
  obtain ⟨xs, h1, h2⟩ := h.own
  exact ⟨h.len, h.cap, h.max, xs, ownsRow_iterAt h1 hk s p, h2⟩
theorem OwI.ne_iter {w : World} {base e : Nat} {A : Option Addr} {n c : Nat} {L : List Nat} (h : OwR RI 1 w base e A n c L) {k pos : Nat} {s : ByteArray} (hit : w.heap[k]? = some (.stringIter s pos)) : A.map (·.block) ≠ some k := by
  obtain ⟨xs, h1, h2⟩ := h.own
  rcases h1.2 with ⟨e1, e2⟩ | ⟨g', cap, cur, hv, hb, hh, hn, hm, hs, hx⟩
  · injection e1 with e1; subst e1; simp
  · injection hv with e1 e3 e4
    subst e1
    intro e5
    have : g' = k := by simpa using e5
    subst this
    rw [hit] at hh
    injection hh with hh
    cases hh
theorem OwI.iter2 {w : World} {base e : Nat} {A : Option Addr} {n c : Nat} {L : List Nat} (h : OwR RI 1 w base e A n c L) {k pos : Nat} {s : ByteArray} (hit : w.heap[k]? = some (.stringIter s pos)) (p : Nat) : OwR RI 1 (w.iterAt k s p) base e A n c L := by
  have hne := OwI.ne_iter h hit
  obtain ⟨xs, h1, h2⟩ := h.own
  refine ⟨h.len, h.cap, h.max, xs, ⟨h1.1, h1.2.imp id fun ⟨g, cap, cur, a, b, c, d⟩ => ⟨g, cap, cur, a, b, (Lib.iterAt_other _ _ _ _ _ (fun e => ?_)).trans c, d⟩⟩, h2⟩
  injection a with a1
  rw [a1] at hne
  exact hne (by simp [e])
theorem OwI.drewN {w : World} {base e : Nat} {A : Option Addr} {n c : Nat} {L : List Nat} (h : OwR RI 1 w base e A n c L) (k : Nat) : OwR RI 1 (w.drewN k) base e A n c L := ⟨h.len, h.cap, h.max, h.own⟩
theorem OwI.alloc {w : World} {base e : Nat} {A : Option Addr} {n c : Nat} {L : List Nat} (h : OwR RI 1 w base e A n c L) (o : Obj) : OwR RI 1 (w.alloc o) base e A n c L :=
  h.call RI.stay ((Below.refl _ _).alloc (Nat.le_refl _) _)
theorem OwI.made {w : World} {base e : Nat} {c : Nat} (hb : base ≤ w.heap.size) (hc : c ≤ maxLen) : OwR RI 1 (w.alloc (.cells (madeCells #[.int .i64 0] c) e)) base e (some ⟨w.heap.size, 0, none⟩) 0 c [] :=
  ⟨rfl, Nat.zero_le _, hc, [], ⟨rfl, .inr ⟨w.heap.size, c, _, rfl, hb, heap_alloc_new w _, Nat.zero_le _, hc, by rw [size_madeCells]; simp, by simp⟩⟩, fun k a h => by simp at h⟩
theorem run_make_cap {P : Program} {t e : TypeId} {i : TypeInfo} (ht : P.underlying t = some (.slice e)) (hi : P.info? e = some i) (hz : i.zero = some (.int .i64 0)) (hs : i.size = 1) (hy : i.bytes = 8) (n : Nat) (hn : n * 8 ≤ 140737488355328) (w : World) :
    (Instr.makeSlice t (.int .i64 0) (.int .i64 (n : Int))).run P w = .ok (.slice (some ⟨w.heap.size, 0, none⟩) 0 n) (w.alloc (.cells (madeCells #[.int .i64 0] n) e)) := by
  have h := run_make (P := P) w t e i (.int .i64 0) ht hi hz .i64 .i64 0 n (by omega) (by omega) (by rw [hy]; omega) (by omega)
  simp only [Int.toNat_natCast, hs, Nat.mul_one, Int.toNat_zero] at h
  exact h
end Go.Proofs.YtobgnncdldfkkaaDoor
