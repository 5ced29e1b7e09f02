/- The walk of Round. -/
import Derived.Test.YtobgnncdldfkkaaDoorSI
import Derived.Deep.QuietTactic
import Derived.BigQuiet
namespace Go.Proofs.YtobgnncdldfkkaaDoor
open Go.RowKit
set_option linter.unusedSimpArgs false
set_option linter.unusedVariables false

theorem tmod_round (v n : Int) (hn : 0 < n) : (if v.tmod n < 0 then v.tmod n + n else v.tmod n) = v % n := by
  have h3 := Int.emod_nonneg v (by omega : n ≠ 0)
  have h4 := Int.emod_lt_of_pos v hn
  have h5 : (n.natAbs : Int) = n := by omega
  rw [Int.tmod_eq_emod]
  by_cases hd : 0 ≤ v ∨ n ∣ v
  · rw [if_pos hd, if_neg (by omega)]; omega
  · rw [if_neg hd, if_pos (by omega)]; omega

set_option maxHeartbeats 800000 in
theorem round_any (v n : Int) (w : World) (hn : 0 < n) (hn2 : n ≤ 4611686018427387904) :
    Calls Tryd.prog 16 #[.int .i64 v, .int .i64 n] w fun e w' => e = .returned (.int .i64 (v % n)) ∧ w' = w := by
  have h1 : v.tmod n < n := Int.tmod_lt_of_pos v hn
  have h2 : -n < v.tmod n := Int.lt_tmod_of_pos v hn
  have hr := tmod_round v n hn
  have HR := Lib.hid hr
  clear hr
  have hne : (n == 0) = false := by simp; omega
  go_enter Tryd.func16, Tryd.ntmps16
  go_wp2
  · go_ret
    exact ⟨ret_int (by rw [← HR.out, if_pos (by omega)]), rfl⟩
  · go_ret
    exact ⟨ret_int (by rw [← HR.out, if_neg (by omega)]), rfl⟩

end Go.Proofs.YtobgnncdldfkkaaDoor
