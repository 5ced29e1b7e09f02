/- The walk of formed. Printed by gen_formed.py -/
import Derived.Test.YtbeijpajodgpeaaDoorC2
import Derived.Test.YtbeijpajodgpeaaDoorTab
import Derived.Laws.StructEq
namespace Go.Proofs.YtbeijpajodgpeaaDoor
open Go.RowKit
set_option linter.unusedSimpArgs false
set_option linter.unusedVariables false

theorem strs_iff (a b : ByteArray) : (a.toList = b.toList) = (a = b) := by
  have := str_beq a b
  by_cases h : a = b
  · subst h; simp
  · rw [decide_eq_false h] at this
    simp [h]
    simpa using this
theorem run_eq_title (x : Int) (s : ByteArray) (y : Int) (t : ByteArray) (W : World) :
    (binOp .eql 28 (.agg #[.int .i64 x, .string s]) (.agg #[.int .i64 y, .string t])).run Tryd.prog W = .ok (.bool (decide (x = y ∧ s = t))) W := by
  have h1 : Tryd.prog.underlying 28 = some (.struct (Tryd.prog.fieldsOf 28)) := by kernel_rfl
  have h2 : Tryd.prog.stoodInHeld 28 = false := by kernel_rfl
  rw [run_eql_struct, run_equalIn_struct W _ _ _ _ h1 h2]
  simp [go_sem]
  simp only [strs_iff]
  by_cases e1 : x = y <;> by_cases e2 : s = t <;> simp [e1, e2]
theorem run_neq_title (x : Int) (s : ByteArray) (y : Int) (t : ByteArray) (W : World) :
    (binOp .neq 28 (.agg #[.int .i64 x, .string s]) (.agg #[.int .i64 y, .string t])).run Tryd.prog W = .ok (.bool (!decide (x = y ∧ s = t))) W := by
  have h1 : Tryd.prog.underlying 28 = some (.struct (Tryd.prog.fieldsOf 28)) := by kernel_rfl
  have h2 : Tryd.prog.stoodInHeld 28 = false := by kernel_rfl
  rw [run_neq_struct, run_equalIn_struct W _ _ _ _ h1 h2]
  simp [go_sem]
  simp only [strs_iff]
  by_cases e1 : x = y <;> by_cases e2 : s = t <;> simp [e1, e2]
theorem title_guard : Tryd.prog.eqGuardType Tryd.prog.depth 28 = false := by kernel_rfl
/-- formed, at a kind's fields -/
def frmK (k : Int) (c : Cg) : Bool := (fU k || decide (c.us.size = 0)) && (fN k || decide (c.nt.size = 0)) && (fT k || (decide (c.ts = 0) && decide (c.tn.size = 0))) && (fO k || (decide (c.os = 0) && decide (c.on.size = 0))) && (fN k || decide (c.tx.size = 0)) && (fK k || decide (c.n = 0)) && (fH k || decide (c.hs.length = 0))
def RFrm (k : Int) (c : Cg) (w : World) (e : Ending) (w' : World) : Prop := e = .returned (.bool (frmK k c)) ∧ Below w.heap.size w w'
theorem str_e {x : ByteArray} (h : x.size = 0) : x.toList = [] ∧ x.toList.isEmpty = true ∧ (x.toList == []) = true := by
  have e : x.toList = [] := by rw [ByteArray.toList_eq, ba_nil h]
  exact ⟨e, by rw [e]; rfl, by rw [e]; rfl⟩
end Go.Proofs.YtbeijpajodgpeaaDoor
