/- The walks of both Lines. -/
import Derived.Test.YtakbpdlfgjfbeaaDoorDP3
import Derived.Test.YtakbpdlfgjfbeaaDoorSS
import Derived.Test.YtakbpdlfgjfbeaaDoorWords2
import Derived.Test.YtakbpdlfgjfbeaaDoorShelf
namespace Go.Proofs.YtakbpdlfgjfbeaaDoor
open Go.RowKit
set_option linter.unusedSimpArgs false
set_option linter.unusedVariables false

theorem u8_eq {a c : UInt8} : ((a.toNat : Int) == (c.toNat : Int)) = decide (a = c) := by
  by_cases h : a = c
  · subst h; simp
  · have : ¬ a.toNat = c.toNat := fun e => h (UInt8.toNat_inj.1 e)
    simp [h]
    omega

set_option maxRecDepth 100000 in
set_option maxHeartbeats 4000000 in
theorem rlines_any (s : ByteArray) (w : World) (hs : s.size ≤ 4294967280) :
    Calls Tryd.prog 19 #[.string s] w fun e w' => ∃ A c, e = .returned (.slice A (LN s).length c) ∧ OwR RS 1 w' w.heap.size 9 A (LN s).length c (LN s) ∧ Below w.heap.size w w' := by
  obtain ⟨i0, hi0, hz0, hz1, hz2⟩ := info_parts str_info
  go_enter Tryd.func19, Tryd.ntmps19
  go_wp2
  go_loopw [3, 4, 5] (fun v3 v4 v5 wr => ∃ (a i : Nat) (B : Option Addr) (c2 : Nat), a ≤ i ∧ i ≤ s.size ∧ v3 = .slice B (LNt s a).length c2 ∧ v4 = .int .i64 a ∧ v5 = .int .i64 i ∧ OwR RS 1 wr w.heap.size 9 B (LNt s a).length c2 (LNt s a) ∧ Below w.heap.size w wr ∧ Hid (brk s a ∧ ∀ j, a ≤ j → j < i → s.data.toList[j]? ≠ some 10)) (fun _ _ v5 _ => s.size - (intOf v5).toNat)
  case atStart => exact ⟨0, 0, none, 0, Nat.le_refl _, Nat.zero_le _, by rw [LNt_zero]; rfl, rfl, rfl, by rw [LNt_zero]; exact OwR.nil _ _ _ _ _, Below.refl _ _, Lib.hid ⟨⟨Nat.zero_le _, Or.inl rfl⟩, fun j h1 h2 => by omega⟩⟩
  case round =>
    obtain ⟨a, i, B, c2, hai, hi, rfl, rfl, rfl, hown, hbw, HB⟩ := hrel
    have hbz := hbw.size
    have hnl := LNt_length s a
    generalize hL : LNt s a = L at hown hnl ⊢
    have HL := Lib.hid hL
    clear hL
    generalize hn : L.length = n at hown hnl ⊢
    by_cases hlt : i < s.size
    · by_cases hc : s[i] = 10
      · have hq : ((s[i].toNat : Int) == 10) = true := by rw [hc]; rfl
        have HP : Hid (brk s (i + 1) ∧ LNt s (i + 1) = L ++ [s.extract a (i + 1)]) := Lib.hid ⟨⟨hlt, Or.inr (by rw [Nat.add_sub_cancel, at_get hlt, hc])⟩, by
          rw [LNt_hit HB.out.1 hai hlt (by rw [at_get hlt, hc]) HB.out.2, HL.out]⟩
        have g1 : (a : Int) ≤ (i : Int) + 1 := by omega
        have g2 : (i : Int) + 1 ≤ (s.size : Int) := by omega
        clear HB hc
        go_wp2_with (first
          | (at_builtin; go_must (refine wpList_append_r _ rfl (.tmp 16) (.tmp 22) 30 rfl 1 16 w.heap.size 9 i0 (.string ByteArray.empty) RS.stay (by decide) Tryd.underlying30 hi0 hz0 hz1 hz2 rfl (by omega) B n c2 L rfl (OwS.alloc hown _) _ 1 1 rfl [s.extract a (i + 1)] [.string (s.extract a (i + 1))] (Reads.lit (cs := #[.string (s.extract a (i + 1))]) rfl) (Fits.one rfl rfl) rfl ?_ ?_ ?_ ?_ ?_; (focus (simp [Value.oneCell'])); (focus (unfold maxLen; omega)); (focus omega); (focus (simp; omega)); intro A3 cc w3 ho3 hg3; (have hb4 := hbw.trans ((Below.alloc (Below.refl w.heap.size _) hbz _).trans hg3.b)); clear hg3)))
        go_roundw
        case rel => exact ⟨i + 1, i + 1, A3, cc, Nat.le_refl _, by omega, by rw [HP.out.2, List.length_append, hn]; rfl, by go_num, by go_num, by rw [HP.out.2, List.length_append, hn]; exact ho3, hb4, Lib.hid ⟨HP.out.1, fun j h1 h2 => by omega⟩⟩
        case measure => simp [intOf]; omega
      · have hq : ((s[i].toNat : Int) == 10) = false := by
          have := @u8_eq s[i] 10
          rw [decide_eq_false hc] at this
          exact this
        have HP : Hid (brk s a ∧ ∀ j, a ≤ j → j < i + 1 → s.data.toList[j]? ≠ some 10) := Lib.hid ⟨HB.out.1, fun j h1 h2 => by
          rcases Nat.lt_or_ge j i with h3 | h3
          · exact HB.out.2 j h1 h3
          · obtain rfl : j = i := by omega
            rw [at_get hlt]
            intro e
            exact hc (Option.some.inj e)⟩
        clear HB hc
        go_wp2
        go_roundw
        case rel => exact ⟨a, i + 1, B, c2, by omega, by omega, by rw [HL.out, hn], rfl, by go_num, by rw [HL.out, hn]; exact hown, hbw, HP⟩
        case measure => simp [intOf]; omega
    · obtain rfl : i = s.size := by omega
      by_cases hlt2 : a < s.size
      · have HP : Hid (LN s = L ++ [s.extract a s.size]) := Lib.hid (by rw [LNt_end HB.out.1 hlt2 HB.out.2, HL.out])
        clear HB
        have g1 : (a : Int) < (s.size : Int) := by omega
        have g2 : (a : Int) ≤ (s.size : Int) := by omega
        go_wp2_with (first
          | (at_builtin; go_must (refine wpList_append_r _ rfl (.tmp 30) (.tmp 34) 30 rfl 1 16 w.heap.size 9 i0 (.string ByteArray.empty) RS.stay (by decide) Tryd.underlying30 hi0 hz0 hz1 hz2 rfl (by omega) B n c2 L rfl (OwS.alloc hown _) _ 1 1 rfl [s.extract a s.size] [.string (s.extract a s.size)] (Reads.lit (cs := #[.string (s.extract a s.size)]) rfl) (Fits.one rfl rfl) rfl ?_ ?_ ?_ ?_ ?_; (focus (simp [Value.oneCell'])); (focus (unfold maxLen; omega)); (focus omega); (focus (simp; omega)); intro A3 cc w3 ho3 hg3; (have hb4 := hbw.trans ((Below.alloc (Below.refl w.heap.size _) hbz _).trans hg3.b)); clear hg3)))
        go_ret
        have hl2 : (LN s).length = n + 1 := by rw [HP.out, List.length_append, hn]; rfl
        exact ⟨A3, cc, by rw [hl2]; rfl, by rw [hl2, HP.out]; exact ho3, hb4⟩
      · obtain rfl : a = s.size := by omega
        have HP : Hid (LN s = L) := Lib.hid (by rw [← LNt_all, HL.out])
        clear HB
        go_wp2
        go_ret
        exact ⟨B, c2, by rw [HP.out, hn]; rfl, by rw [HP.out, hn]; exact hown, hbw⟩
end Go.Proofs.YtakbpdlfgjfbeaaDoor
