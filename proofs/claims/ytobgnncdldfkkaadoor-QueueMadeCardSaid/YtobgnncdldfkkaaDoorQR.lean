/- Rows of jobs: of the call's own, and read. -/
import Derived.Test.YtobgnncdldfkkaaDoorQP1
import Derived.Test.YtobgnncdldfkkaaDoorWords2
namespace Go.Proofs.YtobgnncdldfkkaaDoor
open Go.RowKit
set_option linter.unusedSimpArgs false
set_option linter.unusedVariables false

/-- a job -/
structure Jb where
  st : Int
  us : ByteArray
  sp : Int
  nm : ByteArray
deriving DecidableEq
def jb0 : Jb := ⟨0, ByteArray.empty, 0, ByteArray.empty⟩
instance : Inhabited Jb := ⟨jb0⟩
def Jb.cells (a : Jb) : List Value := [.int .i64 a.st, .string a.us, .int .i64 a.sp, .string a.nm]
def Jb.val (a : Jb) : Value := .agg #[.int .i64 a.st, .string a.us, .int .i64 a.sp, .string a.nm]
def RJ (w : World) (a : Jb) (xs : List Value) : Prop := xs = a.cells
theorem RJ.stay : Stay RJ 0 := ⟨fun _ _ _ _ _ h => h, fun _ _ _ _ _ _ _ h => h⟩
theorem job_info : (Tryd.prog.info? 28).map (fun i => (i.zero.map (·.cells), i.size, i.bytes)) = some (some #[.int .i64 0, .string ByteArray.empty, .int .i64 0, .string ByteArray.empty], 4, 48) := by kernel_rfl
theorem job_zero : (Tryd.prog.info? 28).bind (fun i => i.zero) = some jb0.val := by kernel_rfl
theorem RdJ.opened {w : World} {A : Option Addr} {n c : Nat} {L : List Jb} (h : RdR RJ 4 w A n c L) (hn : 0 < n) :
    ∃ b off, A = some ⟨b, off, none⟩ ∧ b < w.heap.size ∧ ∀ k, k < n → w.cell? ⟨b, off + k * 4, none⟩ = some (.int .i64 (L.getD k jb0).st) ∧ w.cell? ⟨b, off + k * 4 + 1, none⟩ = some (.string (L.getD k jb0).us) ∧ w.cell? ⟨b, off + k * 4 + 2, none⟩ = some (.int .i64 (L.getD k jb0).sp) ∧ w.cell? ⟨b, off + k * 4 + 3, none⟩ = some (.string (L.getD k jb0).nm) := by
  obtain ⟨b, off, e, hb, hc⟩ := h.opened (by omega) hn (fun xs hx h0 => by have := hx.1; rw [h0] at this; simp at this; omega)
  refine ⟨b, off, e, hb, fun k hk => ?_⟩
  have hk2 : k < L.length := by have := h.len; omega
  obtain ⟨cs, hR, hl, hcell⟩ := hc k _ (List.getElem?_eq_getElem hk2)
  have hR' : cs = (L[k]'hk2).cells := hR
  subst hR'
  have e2 : L.getD k jb0 = L[k] := by simp [List.getD, List.getElem?_eq_getElem hk2]
  rw [e2]
  refine ⟨?_, ?_, ?_, ?_⟩
  · have := hcell 0 _ rfl; exact this
  · have := hcell 1 _ rfl; rw [← Nat.add_assoc] at this; exact this
  · have := hcell 2 _ rfl; rw [← Nat.add_assoc] at this; exact this
  · have := hcell 3 _ rfl; rw [← Nat.add_assoc] at this; exact this
theorem RdJ.below {w w' : World} {A : Option Addr} {n c : Nat} {L : List Jb} (h : RdR RJ 4 w A n c L) (hb : Below w.heap.size w w') : RdR RJ 4 w' A n c L := RdR.below RJ.stay h hb
theorem OwJ.drewN {w : World} {base e : Nat} {A : Option Addr} {n c : Nat} {L : List Jb} (h : OwR RJ 4 w base e A n c L) (k : Nat) : OwR RJ 4 (w.drewN k) base e A n c L := ⟨h.len, h.cap, h.max, h.own⟩
theorem OwJ.alloc {w : World} {base e : Nat} {A : Option Addr} {n c : Nat} {L : List Jb} (h : OwR RJ 4 w base e A n c L) (o : Obj) : OwR RJ 4 (w.alloc o) base e A n c L :=
  h.call RJ.stay ((Below.refl _ _).alloc (Nat.le_refl _) _)
end Go.Proofs.YtobgnncdldfkkaaDoor
