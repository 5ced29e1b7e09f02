/- The contracts in the form that the laws use: both implementations give the same disk. -/
import Derived.Test.YtdfmdciopeklhaaAwake
namespace Go.Proofs.Ytdfmdciopeklhaa
open Go.RowKit
set_option linter.unusedSimpArgs false
set_option linter.unusedVariables false

/-- returns a disk that reads as (l, s) -/
def RDV (w : World) (l : List UInt8) (s : Int) : Ending → World → Prop := Ret w fun v w' => ∃ A n c, v = .agg #[.slice A n c, .int .i64 s] ∧ RdB w' A n c l
/-- returns a disk that reads as (l, s), and an error -/
def RDVE (w : World) (l : List UInt8) (s e : Int) : Ending → World → Prop := Ret w fun v w' => ∃ A n c, v = .tuple #[.agg #[.slice A n c, .int .i64 s], .int .i64 e] ∧ RdB w' A n c l
/-- returns true and makes new memory alone -/
def RTrue (w : World) (e : Ending) (w' : World) : Prop := e = .returned (.bool true) ∧ Below w.heap.size w w'

theorem RDV.of {w : World} {l : List UInt8} {s : Int} {e : Ending} {w' : World} (h : RDisk w l s e w') : RDV w l s e w' := by
  obtain ⟨v, rfl, ⟨A, n, c, rfl, ho⟩, hb⟩ := h
  exact ⟨_, rfl, ⟨A, n, c, rfl, ho.rd⟩, hb⟩
theorem RDVE.of {w : World} {l : List UInt8} {s err : Int} {e : Ending} {w' : World} (h : RDiskE w l s err e w') : RDVE w l s err e w' := by
  obtain ⟨v, rfl, ⟨d, rfl, ⟨A, n, c, rfl, ho⟩⟩, hb⟩ := h
  exact ⟨_, rfl, ⟨A, n, c, rfl, ho.rd⟩, hb⟩

section
variable {w : World} {A : Option Addr} {n c : Nat} {l : List UInt8} {s : Int}
theorem sync_law (hr : RdB w A n c l) (h47 : n ≤ 140737488355328) : ∃ s', (∀ W : World, Below w.heap.size w W → Calls Try.prog 12 #[.agg #[.slice A n c, .int .i64 s]] W (RDV W l s')) ∧
    (∀ W : World, Below w.heap.size w W → Calls Try.prog 13 #[.agg #[.slice A n c, .int .i64 s]] W (RDV W l s')) := by
  refine ⟨syS l s, fun W hW => (sync_any A n c l s W (hr.below hW) h47).mono fun _ _ => RDV.of, fun W hW => (rsync_any A n c l s W (hr.below hW)).mono ?_⟩
  rintro e w' ⟨v, rfl, rfl, hb⟩
  exact ⟨_, rfl, ⟨A, n, c, rfl, (hr.below hW).below hb⟩, hb⟩

theorem crash_law (keep sp : Int) (hr : RdB w A n c l) (h47 : n ≤ 140737488355328) : ∃ l' s', (∀ W : World, Below w.heap.size w W → Calls Try.prog 14 #[.agg #[.slice A n c, .int .i64 s], .int .i64 keep, .int .i64 sp] W (RDV W l' s')) ∧
    (∀ W : World, Below w.heap.size w W → Calls Try.prog 15 #[.agg #[.slice A n c, .int .i64 s], .int .i64 keep, .int .i64 sp] W (RDV W l' s')) := by
  cases hv : validB n s with
  | false =>
    refine ⟨l, s, fun W hW => (crash_not A n c l s keep sp W (hr.below hW) h47 hv).mono fun _ _ => RDV.of, fun W hW => (rcrash_not A n c l s keep sp W (hr.below hW) hv).mono ?_⟩
    rintro e w' ⟨v, rfl, rfl, hb⟩
    exact ⟨_, rfl, ⟨A, n, c, rfl, (hr.below hW).below hb⟩, hb⟩
  | true =>
    obtain ⟨v1, v2, v3⟩ := valid_le hv
    obtain ⟨S, rfl⟩ := Int.eq_ofNat_of_zero_le v1
    have hK : 0 ≤ crK n S keep := by unfold crK; omega
    obtain ⟨K, hK⟩ := Int.eq_ofNat_of_zero_le hK
    cases K with
    | zero => exact ⟨_, _, fun W hW => (crash_zero A n c S l keep sp W (hr.below hW) h47 hv hK).mono fun _ _ => RDV.of, fun W hW => (rcrash_zero A n c S l keep sp W (hr.below hW) hv hK).mono fun _ _ => RDV.of⟩
    | succ K => exact ⟨_, _, fun W hW => (crash_pos A n c S K l keep sp W (hr.below hW) h47 hv hK).mono fun _ _ => RDV.of, fun W hW => (rcrash_pos A n c S K l keep sp W (hr.below hW) hv hK).mono fun _ _ => RDV.of⟩

theorem write_law {A2 : Option Addr} {n2 c2 : Nat} {l2 : List UInt8} (hr : RdB w A n c l) (hr2 : RdB w A2 n2 c2 l2) : ∃ l' s' err,
    (∀ W : World, Below w.heap.size w W → Calls Try.prog 19 #[.agg #[.slice A n c, .int .i64 s], .slice A2 n2 c2] W (RDVE W l' s' err)) ∧
    (∀ W : World, Below w.heap.size w W → Calls Try.prog 21 #[.agg #[.slice A n c, .int .i64 s], .slice A2 n2 c2] W (RDVE W l' s' err)) :=
  ⟨_, _, _, fun W hW => (write_any A n c l s A2 n2 c2 l2 W (hr.below hW) (hr2.below hW)).mono fun _ _ => RDVE.of, fun W hW => (rwrite_any A n c l s A2 n2 c2 l2 W (hr.below hW) (hr2.below hW)).mono fun _ _ => RDVE.of⟩

theorem cut_law (k : Int) (hr : RdB w A n c l) : ∃ l' s' err,
    (∀ W : World, Below w.heap.size w W → Calls Try.prog 22 #[.agg #[.slice A n c, .int .i64 s], .int .i64 k] W (RDVE W l' s' err)) ∧
    (∀ W : World, Below w.heap.size w W → Calls Try.prog 23 #[.agg #[.slice A n c, .int .i64 s], .int .i64 k] W (RDVE W l' s' err)) :=
  ⟨_, _, _, fun W hW => (cut_any A n c l s k W (hr.below hW)).mono fun _ _ => RDVE.of, fun W hW => (rcut_any A n c l s k W (hr.below hW)).mono fun _ _ => RDVE.of⟩

theorem awake_law (w : World) : ∀ W : World, Below w.heap.size w W → Calls Try.prog 10 #[] W (RTrue W) := fun W _ => awake_any W
end

end Go.Proofs.Ytdfmdciopeklhaa
