/- Rows of strings: of the call's own, and read. -/
import Derived.Test.YtobgnncdldfkkaaDoorSI
namespace Go.Proofs.YtobgnncdldfkkaaDoor
open Go.RowKit
set_option linter.unusedSimpArgs false
set_option linter.unusedVariables false

def RS (w : World) (a : ByteArray) (xs : List Value) : Prop := xs = [.string a]
theorem RS.stay : Stay RS 0 := ⟨fun _ _ _ _ _ h => h, fun _ _ _ _ _ _ _ h => h⟩
theorem str_info : (Tryd.prog.info? 9).map (fun i => (i.zero, i.size, i.bytes)) = some (some (.string ByteArray.empty), 1, 16) := by kernel_rfl
theorem RdS.opened {w : World} {A : Option Addr} {n c : Nat} {L : List ByteArray} (h : RdR RS 1 w A n c L) (hn : 0 < n) :
    ∃ b off, A = some ⟨b, off, none⟩ ∧ b < w.heap.size ∧ ∀ k, k < n → w.cell? ⟨b, off + k, none⟩ = some (.string (L.getD k ByteArray.empty)) := by
  obtain ⟨b, off, e, hb, hc⟩ := h.opened (by omega) hn (fun xs hx h0 => by have := hx.1; rw [h0] at this; simp at this; omega)
  refine ⟨b, off, e, hb, fun k hk => ?_⟩
  have hk2 : k < L.length := by have := h.len; omega
  obtain ⟨cs, hR, hl, hcell⟩ := hc k _ (List.getElem?_eq_getElem hk2)
  have hR' : cs = [.string (L[k]'hk2)] := hR
  subst hR'
  have := hcell 0 _ rfl
  have e2 : L.getD k ByteArray.empty = L[k] := by simp [List.getD, List.getElem?_eq_getElem hk2]
  rw [e2]
  simpa using this
theorem OwS.drewN {w : World} {base e : Nat} {A : Option Addr} {n c : Nat} {L : List ByteArray} (h : OwR RS 1 w base e A n c L) (k : Nat) : OwR RS 1 (w.drewN k) base e A n c L := ⟨h.len, h.cap, h.max, h.own⟩
theorem OwS.alloc {w : World} {base e : Nat} {A : Option Addr} {n c : Nat} {L : List ByteArray} (h : OwR RS 1 w base e A n c L) (o : Obj) : OwR RS 1 (w.alloc o) base e A n c L :=
  h.call RS.stay ((Below.refl _ _).alloc (Nat.le_refl _) _)
end Go.Proofs.YtobgnncdldfkkaaDoor
