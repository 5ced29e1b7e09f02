/- The walk of DiffEdits. -/
import Derived.Test.YtakbpdlfgjfbeaaDoorD26
import Derived.Test.YtakbpdlfgjfbeaaDoorD27
namespace Go.Proofs.YtakbpdlfgjfbeaaDoor
open Go.RowKit
set_option linter.unusedSimpArgs false
set_option linter.unusedVariables false

theorem apV_form (X : List ByteArray) (E : List Ed) : ∃ (u : ByteArray) (k : Int), apV X E = .tuple #[.string u, .int .i64 k] := by
  by_cases h : Applies X E
  · exact ⟨_, _, apV_yes h⟩
  · exact ⟨_, _, apV_no h⟩

set_option maxRecDepth 100000 in
set_option maxHeartbeats 8000000 in
theorem edits_law (s : ByteArray) (A : Option Addr) (n c : Nat) (E : List Ed) (m : Int) (w : World) (hE : RdR RE 2 w A n c E) (hm : w.cell? ⟨0, 0, none⟩ = some (.int .i64 m)) (hs9 : s.size ≤ 9223372036854775807) (hcat : (cat (dstE E)).size ≤ 1099511627776) :
    Calls Tryd.prog 8 #[.string s, .slice A n c] w fun e w' => e = .returned (.bool true) ∧ Below w.heap.size w w' := by
  have h00 : 0 < w.heap.size := World.block_lt_of_cell? w _ hm
  have HK := Lib.hid (knownOk m)
  have HM := Lib.hid hm
  have HLO := Lib.hid (long_any A n c E w hE)
  have HE := Lib.hid hE
  clear hm hE
  by_cases h1 : s.size ≤ 300
  · have d1 : decide ((300 : Int) < (s.size : Int)) = false := decide_eq_false (by omega)
    have d2 : decide (300 < s.size) = false := decide_eq_false (by omega)
    have HA := Lib.hid fun (W : World) (hW : W.cell? ⟨0, 0, none⟩ = some (.int .i64 m)) (hE : RdR RE 2 W A n c E) (hn : n ≤ 100000) => apply_any s A n c E m W hW (by omega) hE hn hcat
    have HB := Lib.hid fun (W : World) (hE : RdR RE 2 W A n c E) (hn : n ≤ 100000) => rapply_any s A n c E W (by omega) hE hn hcat
    obtain ⟨u, k, hv⟩ := apV_form (LN s) E
    rw [hv] at HA HB
    clear hv hcat
    go_enter Tryd.func8, Tryd.ntmps8
    go_wp2_with fail
    go_at_call 18
    refine HLO.out.mono ?_
    rintro e w1 ⟨r, rfl, hsm, hb1⟩
    cases r with
    | true =>
      go_wp2_with fail
      go_at_call 11
      refine (HK.out w1 ((hb1.cell h00).trans HM.out)).mono ?_
      rintro e w2 ⟨rfl, hb2⟩
      go_wp2_with fail
      go_ret
      exact ⟨rfl, below_call hb1 hb2⟩
    | false =>
      obtain ⟨hn2, hsE⟩ := hsm rfl
      have hn : n ≤ 100000 := by omega
      have HSE := Lib.hid (hsE.mono (show 20 ≤ 100000 by omega))
      clear hsm hsE
      go_wp2_with fail
      go_at_call 25
      refine (HA.out w1 ((hb1.cell h00).trans HM.out) (RdE.below HE.out hb1) hn).mono ?_
      rintro e w2 ⟨rfl, hb2⟩
      have hb02 := below_call hb1 hb2
      clear hb1 hb2
      go_wp2_with fail
      go_at_call 27
      refine (HB.out w2 (RdE.below HE.out hb02) hn).mono ?_
      rintro e w3 ⟨rfl, hb3⟩
      have hb03 := below_call hb02 hb3
      clear hb02 hb3
      have qa : (u.toList == u.toList) = true := by simp
      have qk : (k == k) = true := by simp
      go_wp2_with fail
      go_at_call 26
      refine (invert_any A n c E w3 (RdE.below HE.out hb03) hn HSE.out).mono ?_
      intro e w4 h4
      obtain ⟨A4, n4, c4, rfl, hE4, hb4⟩ := RRead.of h4
      have hb04 := below_call hb03 hb4
      have H4 := Lib.hid hE4
      clear hb03 hb4 hE4 h4
      go_wp2_with fail
      go_at_call 28
      refine (rinvert_any A n c E w4 (RdE.below HE.out hb04) hn HSE.out).mono ?_
      intro e w5 h5
      obtain ⟨A5, n5, c5, rfl, hE5, hb5⟩ := RRead.of h5
      have hb05 := below_call hb04 hb5
      have HS := Lib.hid (same_true A4 n4 c4 A5 n5 c5 (inv E) w5 (RdE.below H4.out hb5) hE5 (by rw [H4.out.len, inv_len, ← HE.out.len]; exact hn))
      clear hb04 hb5 hE5 h5
      go_wp2_with fail
      go_at_call 13
      refine HS.out.mono ?_
      rintro e w6 ⟨rfl, hb6⟩
      have hb06 := below_call hb05 hb6
      clear hb05 hb6 HS
      go_wp2_with fail
      go_at_call 11
      refine (HK.out w6 ((hb06.cell h00).trans HM.out)).mono ?_
      rintro e w7 ⟨rfl, hb7⟩
      go_wp2_with fail
      go_ret
      exact ⟨rfl, below_call hb06 hb7⟩
  · have d1 : decide ((300 : Int) < (s.size : Int)) = true := decide_eq_true (by omega)
    have d2 : decide (300 < s.size) = true := decide_eq_true (by omega)
    go_enter Tryd.func8, Tryd.ntmps8
    go_wp2_with fail
    go_at_call 11
    refine (HK.out w HM.out).mono ?_
    rintro e w8 ⟨rfl, hb8⟩
    go_wp2_with fail
    go_ret
    exact ⟨rfl, hb8⟩
end Go.Proofs.YtakbpdlfgjfbeaaDoor
