/- The walks of the reference's letters, of First and of both Trims. -/
import Derived.Test.YtiggholdcebjjaaDoorC1
namespace Go.Proofs.YtiggholdcebjjaaDoor
open Go.RowKit
set_option linter.unusedSimpArgs false
set_option linter.unusedVariables false

theorem rchange_any (c : UInt8) (up : Bool) (w : World) :
    Calls Tryd.prog 30 #[.int .u8 (c.toNat : Int), .bool up] w fun e w' => e = .returned (.int .u8 ((ch up c).toNat : Int)) ∧ w' = w := by
  have hc := c.toNat_lt
  have hn := ch_toNat up c
  generalize hd : ch up c = d at *
  clear hd
  cases up
  · by_cases h1 : 65 ≤ c.toNat
    · by_cases h2 : c.toNat ≤ 90
      · have q1 : (65 : Int) ≤ (c.toNat : Int) := by omega
        have q2 : (c.toNat : Int) ≤ 90 := by omega
        have q3 : (d.toNat : Int) = (c.toNat : Int) + 32 := by rw [hn]; simp [h1, h2]
        have HQ := Lib.hid q3
        have q4 : IntKind.u8.wrap ((c.toNat : Int) + 32) = (c.toNat : Int) + 32 := by rw [IntKind.wrap_u8']; omega
        clear hn q3
        go_enter Tryd.func30, Tryd.ntmps30
        go_wp2
        go_ret
        exact ⟨by rw [HQ.out]; rfl, rfl⟩
      · have q1 : (65 : Int) ≤ (c.toNat : Int) := by omega
        have q2 : ¬ (c.toNat : Int) ≤ 90 := by omega
        have q3 : (d.toNat : Int) = (c.toNat : Int) := by rw [hn]; simp [h1, h2]
        have HQ := Lib.hid q3
        clear hn q3
        go_enter Tryd.func30, Tryd.ntmps30
        go_wp2
        go_ret
        exact ⟨by rw [HQ.out]; rfl, rfl⟩
    · have q1 : ¬ (65 : Int) ≤ (c.toNat : Int) := by omega
      have q3 : (d.toNat : Int) = (c.toNat : Int) := by rw [hn]; simp [h1]
      have HQ := Lib.hid q3
      clear hn q3
      go_enter Tryd.func30, Tryd.ntmps30
      go_wp2
      go_ret
      exact ⟨by rw [HQ.out]; rfl, rfl⟩
  · by_cases h1 : 97 ≤ c.toNat
    · by_cases h2 : c.toNat ≤ 122
      · have q1 : (97 : Int) ≤ (c.toNat : Int) := by omega
        have q2 : (c.toNat : Int) ≤ 122 := by omega
        have q3 : (d.toNat : Int) = (c.toNat : Int) - 32 := by rw [hn]; simp [h1, h2]
        have HQ := Lib.hid q3
        have q4 : IntKind.u8.wrap ((c.toNat : Int) - 32) = (c.toNat : Int) - 32 := by rw [IntKind.wrap_u8']; omega
        clear hn q3
        go_enter Tryd.func30, Tryd.ntmps30
        go_wp2
        go_ret
        exact ⟨by rw [HQ.out]; rfl, rfl⟩
      · have q1 : (97 : Int) ≤ (c.toNat : Int) := by omega
        have q2 : ¬ (c.toNat : Int) ≤ 122 := by omega
        have q3 : (d.toNat : Int) = (c.toNat : Int) := by rw [hn]; simp [h1, h2]
        have HQ := Lib.hid q3
        clear hn q3
        go_enter Tryd.func30, Tryd.ntmps30
        go_wp2
        go_ret
        exact ⟨by rw [HQ.out]; rfl, rfl⟩
    · have q1 : ¬ (97 : Int) ≤ (c.toNat : Int) := by omega
      have q3 : (d.toNat : Int) = (c.toNat : Int) := by rw [hn]; simp [h1]
      have HQ := Lib.hid q3
      clear hn q3
      go_enter Tryd.func30, Tryd.ntmps30
      go_wp2
      go_ret
      exact ⟨by rw [HQ.out]; rfl, rfl⟩

set_option maxRecDepth 100000 in
set_option maxHeartbeats 4000000 in
theorem cased_any (up : Bool) (s : ByteArray) (n : Nat) (w : World) (hs : s.size ≤ 8796093022207) (hn9 : n ≤ 8796093022207) :
    Calls Tryd.prog 18 #[.string s, .int .i64 n, .bool up] w fun e w' => e = .returned (.string ⟨(cs up n (bl s)).toArray⟩) ∧ Below w.heap.size w w' := by
  have hl := bl_len s
  have hb0 := below_bytes w s
  have hB0 := BB.new w s
  obtain ⟨l, hll⟩ : ∃ l, l = bl s := ⟨_, rfl⟩
  rw [← hll] at hB0 hl ⊢
  have HL := Lib.hid hl
  clear hll hl
  have kc : ∀ W : World, (convert 9 43 (.string s)).run Tryd.prog W = .ok (.slice (some ⟨W.heap.size, 0, none⟩) s.size (grownCap W s.size 0 5)) (Lib.bytesWorld W 5 s) := fun W => Lib.run_convert_string_bytes W _ _ _ s Tryd.underlying9 Tryd.underlying43 Tryd.underlying5
  obtain ⟨Z, hZ⟩ : ∃ Z : ByteArray, Z = ⟨(cs up n l).toArray⟩ := ⟨_, rfl⟩
  have HZ := Lib.hid hZ
  rw [← hZ]
  clear hZ
  go_enter Tryd.func18, Tryd.ntmps18
  go_wp2
  clear kc
  generalize grownCap w s.size 0 5 = cap at *
  generalize Lib.bytesWorld w 5 s = W1 at *
  go_loopw [8] (fun v8 wr => ∃ k : Nat, k ≤ s.size ∧ k ≤ n ∧ v8 = .int .i64 k ∧ BB wr w.heap.size (cs up k l) ∧ Below w.heap.size w wr) (fun v8 _ => s.size - (intOf v8).toNat)
  case atStart => exact ⟨0, Nat.zero_le _, Nat.zero_le _, rfl, by rw [cs_zero]; exact hB0, hb0⟩
  case round =>
    obtain ⟨k, hk, hkn, rfl, hB, hbw⟩ := hrel
    by_cases hlt : k < s.size ∧ k < n
    · obtain ⟨hlt, hlt2⟩ := hlt
      have hkl : k < l.length := by rw [HL.out]; exact hlt
      obtain ⟨c1, c2⟩ := BB.cell hB (j := k) (by rw [cs_len]; exact hkl)
      rw [cs_get _ hkl] at c1
      have HST := Lib.hid (BB.store hB (j := k) (by rw [cs_len]; exact hkl) (ch up (l.getD k 0)))
      rw [cs_set _ hkl] at HST
      have HRC := Lib.hid fun W => rchange_any (l.getD k 0) up W
      generalize hcc : l.getD k 0 = c at *
      generalize hd : ch up c = d at *
      clear hB hd hcc
      have g0 : (0 : Int) ≤ (k : Int) := by omega
      have g1 : (k : Int) < (s.size : Int) := by omega
      have g2 : (k : Int) < (n : Int) := by omega
      go_wp2_with (first | (go_at_call 30; ((with_reducible refine (HRC.out _).mono ?_); rintro e wn ⟨rfl, hwn⟩; obtain rfl := hwn.symm; clear hwn)))
      go_roundw
      case rel => exact ⟨k + 1, by omega, by omega, by go_num, HST.out, hbw.setCell (Nat.le_refl _) _⟩
      case measure => simp [intOf]; omega
    · have hbk := BB.back (c := cap) hB
      rw [cs_len, HL.out] at hbk
      have HR : Hid (cs up k l = cs up n l) := Lib.hid (by
        have h1 := HL.out
        rcases Nat.lt_or_ge k n with h2 | h2
        · have h3 : k = l.length := by omega
          subst h3
          unfold cs
          rw [List.take_of_length_le (Nat.le_refl _), List.take_of_length_le (by omega), List.drop_of_length_le (Nat.le_refl _), List.drop_of_length_le (by omega)]
        · rw [show k = n by omega])
      rw [HR.out, ← HZ.out] at hbk
      by_cases h1 : k < s.size
      · have g2 : ¬ (k : Int) < (n : Int) := by omega
        have g1 : (k : Int) < (s.size : Int) := by omega
        clear hlt
        go_wp2
        go_ret
        exact ⟨rfl, hbw⟩
      · have g1 : ¬ (k : Int) < (s.size : Int) := by omega
        clear hlt
        go_wp2
        go_ret
        exact ⟨rfl, hbw⟩
theorem rlower_any (s : ByteArray) (w : World) (hs : s.size ≤ 8796093022207) :
    Calls Tryd.prog 7 #[.string s] w fun e w' => e = .returned (.string ⟨((bl s).map (ch false)).toArray⟩) ∧ Below w.heap.size w w' := by
  have hx := Below.refl w.heap.size w
  have HC : Hid (∀ W, Calls Tryd.prog 18 #[.string s, .int .i64 s.size, .bool false] W fun e w' => e = .returned (.string ⟨((bl s).map (ch false)).toArray⟩) ∧ Below W.heap.size W w') := Lib.hid fun W => by
    have := cased_any false s s.size W hs hs
    rwa [← bl_len s, cs_all, bl_len s] at this
  go_enter Tryd.func7, Tryd.ntmps7
  go_wp2_with (first | (go_at_call 18; ((with_reducible refine (HC.out _).mono ?_); rintro e wn ⟨rfl, hbn⟩; replace hx := below_call hx hbn; clear hbn)))
  go_ret
  exact ⟨rfl, hx⟩
theorem rupper_any (s : ByteArray) (w : World) (hs : s.size ≤ 8796093022207) :
    Calls Tryd.prog 9 #[.string s] w fun e w' => e = .returned (.string ⟨((bl s).map (ch true)).toArray⟩) ∧ Below w.heap.size w w' := by
  have hx := Below.refl w.heap.size w
  have HC : Hid (∀ W, Calls Tryd.prog 18 #[.string s, .int .i64 s.size, .bool true] W fun e w' => e = .returned (.string ⟨((bl s).map (ch true)).toArray⟩) ∧ Below W.heap.size W w') := Lib.hid fun W => by
    have := cased_any true s s.size W hs hs
    rwa [← bl_len s, cs_all, bl_len s] at this
  go_enter Tryd.func9, Tryd.ntmps9
  go_wp2_with (first | (go_at_call 18; ((with_reducible refine (HC.out _).mono ?_); rintro e wn ⟨rfl, hbn⟩; replace hx := below_call hx hbn; clear hbn)))
  go_ret
  exact ⟨rfl, hx⟩
theorem rfirst_any (up : Bool) (s : ByteArray) (w : World) (hs : s.size ≤ 8796093022207) :
    Calls Tryd.prog 11 #[.string s, .bool up] w fun e w' => e = .returned (.string ⟨(cs up 1 (bl s)).toArray⟩) ∧ Below w.heap.size w w' := by
  have hx := Below.refl w.heap.size w
  have HC : Hid (∀ W, Calls Tryd.prog 18 #[.string s, .int .i64 1, .bool up] W fun e w' => e = .returned (.string ⟨(cs up 1 (bl s)).toArray⟩) ∧ Below W.heap.size W w') := Lib.hid fun W => cased_any up s 1 W hs (by omega)
  go_enter Tryd.func11, Tryd.ntmps11
  go_wp2_with (first | (go_at_call 18; ((with_reducible refine (HC.out _).mono ?_); rintro e wn ⟨rfl, hbn⟩; replace hx := below_call hx hbn; clear hbn)))
  go_ret
  exact ⟨rfl, hx⟩
end Go.Proofs.YtiggholdcebjjaaDoor
