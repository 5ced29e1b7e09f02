/- The walks of the comparisons and of Round. -/
import Derived.Test.YtaagmiidapammaaGen
namespace Go.Proofs.Ytaagmiidapammaa
open Go.RowKit
set_option linter.unusedSimpArgs false
set_option linter.unusedVariables false

set_option maxHeartbeats 800000 in
theorem samedisk_true (A : Option Addr) (n c : Nat) (A2 : Option Addr) (n2 c2 : Nat) (l : List UInt8) (s : Int) (w : World) (hr : RdB w A n c l) (hr2 : RdB w A2 n2 c2 l) :
    Calls Try.prog 42 #[.agg #[.slice A n c, .int .i64 s], .agg #[.slice A2 n2 c2, .int .i64 s]] w fun e w' => e = .returned (.bool true) ∧ Below w.heap.size w w' := by
  have hcl : ∀ W : World, Below w.heap.size w W → Calls Try.prog 16 #[.slice A n c, .slice A2 n2 c2] W fun e w' => e = .returned (.bool true) ∧ Below W.heap.size W w' :=
    fun W hW => same_true A n c A2 n2 c2 l l W (hr.below hW) (hr2.below hW) rfl
  have HC := Lib.hid hcl
  clear hcl
  go_enter Try.func42, Try.ntmps42
  go_wp2_with (go_at_call 16; refine (HC.out _ ?_).mono ?_; (refine bel_out ?_; (focus (repeat' first | (with_reducible refine bel_refl ?_) | with_reducible assumption | with_reducible refine bel_drew ?_ | with_reducible refine bel_drewN _ ?_ | with_reducible refine bel_alloc _ ?_ | with_reducible refine bel_set ?_ _ ?_ | (with_reducible apply bel_call; with_reducible assumption) | (with_reducible apply bel_owg; with_reducible assumption; (focus omega)) | with_reducible exact Nat.le_refl _ | omega | (simp; done) | (simp; omega)))); rintro e w2 ⟨rfl, hb2⟩)
  go_ret
  exact ⟨rfl, by (refine bel_out ?_; (focus (repeat' first | (with_reducible refine bel_refl ?_) | with_reducible assumption | with_reducible refine bel_drew ?_ | with_reducible refine bel_drewN _ ?_ | with_reducible refine bel_alloc _ ?_ | with_reducible refine bel_set ?_ _ ?_ | (with_reducible apply bel_call; with_reducible assumption) | (with_reducible apply bel_owg; with_reducible assumption; (focus omega)) | with_reducible exact Nat.le_refl _ | omega | (simp; done) | (simp; omega))))⟩

theorem tmod_round (v n : Int) (hn : 0 < n) : (if v.tmod n < 0 then v.tmod n + n else v.tmod n) = v % n := by
  have h3 := Int.emod_nonneg v (by omega : n ≠ 0)
  have h4 := Int.emod_lt_of_pos v hn
  have h5 : (n.natAbs : Int) = n := by omega
  rw [Int.tmod_eq_emod]
  by_cases hd : 0 ≤ v ∨ n ∣ v
  · rw [if_pos hd, if_neg (by omega)]; omega
  · rw [if_neg hd, if_pos (by omega)]; omega

set_option maxHeartbeats 800000 in
theorem round_any (v n : Int) (w : World) (hn : 0 < n) (hn2 : n ≤ 4611686018427387904) :
    Calls Try.prog 17 #[.int .i64 v, .int .i64 n] w fun e w' => e = .returned (.int .i64 (v % n)) ∧ w' = w := by
  have h1 : v.tmod n < n := Int.tmod_lt_of_pos v hn
  have h2 : -n < v.tmod n := Int.lt_tmod_of_pos v hn
  have hr := tmod_round v n hn
  have HR := Lib.hid hr
  clear hr
  have hne : (n == 0) = false := by simp; omega
  go_enter Try.func17, Try.ntmps17
  go_wp2
  · go_ret
    exact ⟨ret_int (by rw [← HR.out, if_pos (by omega)]), rfl⟩
  · go_ret
    exact ⟨ret_int (by rw [← HR.out, if_neg (by omega)]), rfl⟩

end Go.Proofs.Ytaagmiidapammaa
