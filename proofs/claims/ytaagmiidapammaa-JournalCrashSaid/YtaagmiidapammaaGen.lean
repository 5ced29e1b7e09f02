/- The walks of the generators and comparisons. -/
import Derived.Test.YtaagmiidapammaaDisk6
import Derived.Deep.QuietTactic
import Derived.BigQuiet
namespace Go.Proofs.Ytaagmiidapammaa
open Go.RowKit
set_option linter.unusedSimpArgs false
set_option linter.unusedVariables false

set_option maxHeartbeats 800000 in
theorem same_true (A : Option Addr) (n c : Nat) (A2 : Option Addr) (n2 c2 : Nat) (l r : List UInt8) (w : World) (hr : RdB w A n c l) (hr2 : RdB w A2 n2 c2 r) (hlr : l = r) :
    Calls Try.prog 16 #[.slice A n c, .slice A2 n2 c2] w fun e w' => e = .returned (.bool true) ∧ Below w.heap.size w w' := by
  subst hlr
  obtain rfl : n = n2 := hr.len.trans hr2.len.symm
  have hmax : n ≤ maxLen := Nat.le_trans hr.cap hr.max
  unfold maxLen at hmax
  rcases Nat.eq_zero_or_pos n with rfl | h0
  · go_enter Try.func16, Try.ntmps16
    go_wp2
    go_loopw [5] (fun i wr => i = .int .i64 0 ∧ Below w.heap.size w wr) (fun _ _ => 0)
    case atStart => exact ⟨rfl, Below.refl _ _⟩
    case round =>
      obtain ⟨rfl, hb⟩ := hrel
      go_wp2
      go_ret
      exact ⟨rfl, hb⟩
  · obtain ⟨b, off, rfl, hb, hc⟩ := hr.opened h0
    obtain ⟨b2, off2, rfl, hb2, hc2⟩ := hr2.opened h0
    have HC := Lib.hid hc
    have HC2 := Lib.hid hc2
    clear hc hc2 hr hr2
    go_enter Try.func16, Try.ntmps16
    go_wp2
    go_loopw [5] (fun i wr => ∃ k : Nat, k ≤ n ∧ i = .int .i64 k ∧ Below w.heap.size w wr) (fun i _ => n - (intOf i).toNat)
    case atStart => exact ⟨0, Nat.zero_le _, rfl, Below.refl _ _⟩
    case round =>
      obtain ⟨k, hk, rfl, hbw⟩ := hrel
      by_cases hlt : k < n
      · have c1 := (hbw.cell (p := ⟨b, off + k, none⟩) hb).trans (HC.out k hlt)
        have c2 := (hbw.cell (p := ⟨b2, off2 + k, none⟩) hb2).trans (HC2.out k hlt)
        go_wp2_with fail
        go_quiet (fail)
        go_wp2
        go_roundw
        case rel => exact ⟨k + 1, by omega, by go_num, below_drewN hbw _⟩
        case measure => simp [intOf]; omega
      · go_wp2
        go_ret
        exact ⟨rfl, hbw⟩

end Go.Proofs.Ytaagmiidapammaa
