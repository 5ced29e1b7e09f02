/- The walks of Few and encodes. -/
import Derived.Test.YtbeijpajodgpeaaDoorCR
import Derived.Test.YtbeijpajodgpeaaDoorC2
import Derived.Test.YtbeijpajodgpeaaDoorMQ
namespace Go.Proofs.YtbeijpajodgpeaaDoor
open Go.RowKit
set_option linter.unusedSimpArgs false
set_option linter.unusedVariables false

/-- a Bool comes back -/
def IsB (e : Ending) : Prop := ∃ b, e = .returned (.bool b)
set_option maxRecDepth 100000 in
set_option maxHeartbeats 16000000 in
theorem few_any (A : Option Addr) (n c : Nat) (L : List Cg) (w : World) (h : RdR RC 10 w A n c L) :
    Calls Tryd.prog 19 #[.slice A n c] w fun e w' => IsB e ∧ Below w.heap.size w w' := by
  by_cases h20 : 20 < n
  · have z1 : (20 : Int) < (n : Int) := by omega
    clear h
    go_enter Tryd.func19, Tryd.ntmps19
    go_wp2_with fail
    go_ret
    exact ⟨⟨_, rfl⟩, Below.refl _ _⟩
  · have z1 : ¬ (20 : Int) < (n : Int) := by omega
    have HLN := Lib.hid h.len
    have HO := Lib.hid fun (h0 : 0 < n) => RdC.opened h h0
    clear h
    go_enter Tryd.func19, Tryd.ntmps19
    go_wp2_with fail
    go_loopw [3] (fun v wr => ∃ k : Nat, k ≤ n ∧ v = .int .i64 k ∧ Below w.heap.size w wr) (fun v _ => n - (intOf v).toNat)
    case atStart => exact ⟨0, Nat.zero_le _, rfl, Below.refl _ _⟩
    case round =>
      obtain ⟨k, hk, rfl, hbw⟩ := hrel
      by_cases hlt : k < n
      · obtain ⟨b, off, rfl, hb, hc⟩ := HO.out (by omega)
        obtain ⟨Ah, nh, ch, x0, x1, x2, x3, x4, x5, x6, x7, x8, x9, hrd⟩ := hc k hlt
        have y2 := (hbw.cell (p := ⟨b, off + k * 10 + 2, none⟩) hb).trans x2
        have y7 := (hbw.cell (p := ⟨b, off + k * 10 + 7, none⟩) hb).trans x7
        have y9 := (hbw.cell (p := ⟨b, off + k * 10 + 9, none⟩) hb).trans x9
        have HX9 := Lib.hid x9
        have HOR := Lib.hid fun (h0 : 0 < nh) => RdV.opened hrd h0
        have HHB := Lib.hid hb
        clear hc x0 x1 x2 x3 x4 x5 x6 x7 x8 x9 hrd HO
        generalize L.getD k cg0 = a at *
        have z0 : (0 : Int) ≤ (k : Int) := by omega
        have z2 : (k : Int) < (n : Int) := by omega
        by_cases hs : (600 : Int) < IntKind.i64.wrap ((a.tx.size : Int) + (a.nt.size : Int))
        · clear HX9 HOR HHB
          go_wp2_with fail
          go_quiet (fail)
          go_wp2_with fail
          go_ret
          exact ⟨⟨_, rfl⟩, below_drewN hbw _⟩
        · by_cases h6 : 6 < nh
          · have z3 : (6 : Int) < (nh : Int) := by omega
            clear HX9 HOR HHB
            go_wp2_with fail
            go_quiet (fail)
            go_wp2_with fail
            go_ret
            exact ⟨⟨_, rfl⟩, below_drewN hbw _⟩
          · have z3 : ¬ (6 : Int) < (nh : Int) := by omega
            go_wp2_with fail
            go_quiet (fail)
            have hbq := below_drewN hbw nq
            go_wp2_with fail
            clear hs h6 z3 y2 y7 y9 hbw
            generalize wr.drewN nq = y1 at *
            have HZ := Lib.hid (And.intro hlt (And.intro hk hbq))
            obtain ⟨wo, hwo⟩ : ∃ q, q = y1 := ⟨_, rfl⟩
            go_loopw [4] (fun v wx => ∃ j : Nat, j ≤ nh ∧ v = .int .i64 j ∧ Below w.heap.size w wx) (fun v _ => nh - (intOf v).toNat)
            case atStart => exact ⟨0, Nat.zero_le _, rfl, hbq⟩
            case round =>
              obtain ⟨j, hj, rfl, hbx⟩ := hrel
              have y9 := (hbx.cell (p := ⟨b, off + k * 10 + 9, none⟩) HHB.out).trans HX9.out
              have z4 : (0 : Int) ≤ (j : Int) := by omega
              by_cases hltj : j < nh
              · obtain ⟨b2, off2, rfl, hb2, hc2⟩ := HOR.out (by omega)
                have y3 := (hbx.cell (p := ⟨b2, off2 + j * 6 + 3, none⟩) hb2).trans (hc2 j hltj).2.2.2.1
                have z5 : (j : Int) < (nh : Int) := by omega
                clear hc2 HOR
                by_cases hb3 : 300 < (a.hs.getD j rv0).tx.size
                · have z6 : (300 : Int) < ((a.hs.getD j rv0).tx.size : Int) := by omega
                  generalize (a.hs.getD j rv0).tx = tx at *
                  go_wp2_with fail
                  go_ret
                  exact ⟨⟨_, rfl⟩, hbx⟩
                · have z6 : ¬ (300 : Int) < ((a.hs.getD j rv0).tx.size : Int) := by omega
                  generalize (a.hs.getD j rv0).tx = tx at *
                  go_wp2_with fail
                  go_roundw
                  case rel => exact ⟨j + 1, by omega, by go_num, hbx⟩
                  case measure => simp [intOf]; omega
              · have z5 : ¬ (j : Int) < (nh : Int) := by omega
                go_wp2_with fail
                go_roundw
                case rel => exact ⟨k + 1, by omega, by go_num, hbx⟩
                case measure => simp [intOf]; omega
      · have z2 : ¬ (k : Int) < (n : Int) := by omega
        go_wp2_with fail
        go_ret
        exact ⟨⟨_, rfl⟩, hbw⟩
end Go.Proofs.YtbeijpajodgpeaaDoor
