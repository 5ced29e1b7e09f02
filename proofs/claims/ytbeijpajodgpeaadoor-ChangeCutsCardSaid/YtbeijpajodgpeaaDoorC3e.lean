/- The walk of formed, whole. Printed by gen_formed.py -/
import Derived.Test.YtbeijpajodgpeaaDoorC3
import Derived.Test.YtbeijpajodgpeaaDoorC3a
import Derived.Test.YtbeijpajodgpeaaDoorC3b
import Derived.Test.YtbeijpajodgpeaaDoorC3c
import Derived.Test.YtbeijpajodgpeaaDoorC3d
namespace Go.Proofs.YtbeijpajodgpeaaDoor
open Go.RowKit
set_option linter.unusedSimpArgs false
set_option linter.unusedVariables false
theorem formed_any (c : Cg) (A : Option Addr) (n cp : Nat) (w : World) (hn : n = c.hs.length) (hk : 1 ≤ c.kd ∧ c.kd ≤ 10) :
    Calls Tryd.prog 31 #[cval c A n cp, usesF c.kd] w fun e w' => e = .returned (.bool (frm c)) ∧ Below w.heap.size w w' := by
  have hf : frm c = frmK c.kd c := rfl
  rw [hf]
  rcases kinds hk with e | e | e | e | e | e | e | e | e | e <;> rw [e]
  · exact formed_1 c A n cp w hn
  · exact formed_2 c A n cp w hn
  · exact formed_2 c A n cp w hn
  · exact formed_4 c A n cp w hn
  · exact formed_5 c A n cp w hn
  · exact formed_6 c A n cp w hn
  · exact formed_2 c A n cp w hn
  · exact formed_2 c A n cp w hn
  · exact formed_9 c A n cp w hn
  · exact formed_10 c A n cp w hn
end Go.Proofs.YtbeijpajodgpeaaDoor
