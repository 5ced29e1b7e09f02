/- The walks of Length and Slice. -/
import Derived.Test.YtiggholdcebjjaaDoorS1
import Derived.Test.YtiggholdcebjjaaDoorShelf
namespace Go.Proofs.YtiggholdcebjjaaDoor
open Go.RowKit
set_option linter.unusedSimpArgs false
set_option linter.unusedVariables false

theorem length_any (s : ByteArray) (w : World) (hsz : s.size ≤ 8796093022207) :
    Calls Tryd.prog 15 #[.string s] w fun e w' => e = .returned (.int .i64 ((NR s : Nat) : Int)) ∧ Below w.heap.size w w' := by
  go_enter Tryd.func15, Tryd.ntmps15
  go_wp2_with (first | (go_at_call 22; go_must (refine (Tryd.utf8_RuneCountInString s _ (by omega)).mono ?_; rintro e w1 ⟨rfl, ps, rfl⟩)))
  go_ret
  exact ⟨rfl, (Below.refl _ _).alloc (Nat.le_refl _) _⟩
/-- what the code of Slice computes on the way -/
theorem sa_neg {N : Nat} {F : Int} (h : F < 0) (hF : -9223372036854775808 ≤ F) (hN : N ≤ 8796093022207) : IntKind.i64.wrap (F + (N : Int)) = F + (N : Int) := by rw [IntKind.wrap_i64]; omega

set_option maxRecDepth 100000 in
set_option maxHeartbeats 4000000 in
theorem slice_any (s : ByteArray) (F n : Int) (w : World) (hsz : s.size ≤ 8796093022207) (hF : -9223372036854775808 ≤ F) :
    Calls Tryd.prog 13 #[.string s, .int .i64 F, .int .i64 n] w fun e w' => e = .returned (.string (slS s F n)) ∧ Below w.heap.size w w' := by
  have hl := offs_len s
  have hN := NR_le s
  have ha := sa_le (NR s) F
  have hb := sb_le ha n
  have hO1 := O_le hb.1 hb.2
  have hO2 := O_size hb.2
  obtain ⟨a, ea⟩ : ∃ a, a = sa (NR s) F := ⟨_, rfl⟩
  obtain ⟨b, eb⟩ : ∃ b, b = sb (NR s) a n := ⟨_, rfl⟩
  have HR : slS s F n = s.extract (O s a) (O s b) := by rw [slS, ← ea, ← eb]
  rw [HR]
  rw [← ea] at ha hb hO1 hO2
  rw [← eb] at hb hO1 hO2
  obtain ⟨hb1, hb2⟩ := hb
  obtain ⟨oa, hoa⟩ : ∃ x, x = O s a := ⟨_, rfl⟩
  obtain ⟨ob, hob⟩ : ∃ x, x = O s b := ⟨_, rfl⟩
  rw [← hob] at hO2
  rw [← hoa, ← hob] at hO1 ⊢
  have HA : Hid (sa (NR s) F = a) := Lib.hid ea.symm
  have HB : Hid (sb (NR s) a n = b) := Lib.hid eb.symm
  have HOA : Hid (O s a = oa) := Lib.hid hoa.symm
  have HOB : Hid (O s b = ob) := Lib.hid hob.symm
  clear ea eb hoa hob HR
  generalize NR s = N at *
  obtain ⟨r, hr⟩ : ∃ r, a + r = N := ⟨N - a, by omega⟩
  have hwr : IntKind.i64.wrap ((N : Int) - (a : Int)) = (r : Int) := by rw [IntKind.wrap_i64]; omega
  have hwr2 : IntKind.i64.wrap ((a : Int) - (N : Int)) = -(r : Int) := by rw [IntKind.wrap_i64]; omega
  have hw0 : IntKind.i64.wrap ((N : Int) + 1 - 1) = (N : Int) := by rw [IntKind.wrap_i64]; omega
  obtain ⟨a1, hs1, hs2⟩ : ∃ a1 : Nat, ((F < 0 ∧ IntKind.i64.wrap (F + (N : Int)) = F + (N : Int) ∧ max 0 (F + (N : Int)) = (a1 : Int)) ∨ (0 ≤ F ∧ F = (a1 : Int))) ∧ min (a1 : Int) (N : Int) = (a : Int) := by
    have h0 := HA.out
    unfold sa at h0
    by_cases hF0 : F < 0
    · rw [if_pos hF0] at h0
      refine ⟨a, .inl ⟨hF0, by rw [IntKind.wrap_i64]; omega, by omega⟩, by omega⟩
    · rw [if_neg hF0] at h0
      refine ⟨F.toNat, .inr ⟨by omega, by omega⟩, by omega⟩
  have hs3 : (∃ m d : Nat, n = (m : Int) ∧ min (m : Int) (r : Int) = (d : Int) ∧ IntKind.i64.wrap ((a : Int) + (d : Int)) = (b : Int)) ∨ (n < 0 ∧ -(r : Int) < n ∧ IntKind.i64.wrap ((N : Int) + n) = (b : Int)) ∨ (n < 0 ∧ n ≤ -(r : Int) ∧ a = b ∧ oa = ob) := by
    have h0 := HB.out
    unfold sb at h0
    by_cases hn0 : 0 ≤ n
    · rw [if_pos hn0] at h0
      refine .inl ⟨n.toNat, min r n.toNat, by omega, by omega, by rw [IntKind.wrap_i64]; omega⟩
    · rw [if_neg hn0] at h0
      by_cases hn1 : -(r : Int) < n
      · rw [if_pos (by omega)] at h0
        exact .inr (.inl ⟨by omega, hn1, by rw [IntKind.wrap_i64]; omega⟩)
      · rw [if_neg (by omega)] at h0
        exact .inr (.inr ⟨by omega, by omega, h0, by rw [← HOA.out, ← HOB.out, h0]⟩)
  have hi1 : (0 : Int) ≤ (a : Int) := by omega
  have hi2 : (a : Int) < (N : Int) + 1 := by omega
  have hi9 : (a : Int) < ((N + 1 : Nat) : Int) := by omega
  have hi10 : a < N + 1 := by omega
  have hi11 : (b : Int) < ((N + 1 : Nat) : Int) := by omega
  have hi12 : b < N + 1 := by omega
  have hi3 : (0 : Int) ≤ (b : Int) := by omega
  have hi4 : (b : Int) < (N : Int) + 1 := by omega
  have hi5 : (0 : Int) ≤ (oa : Int) := by omega
  have hi6 : (oa : Int) ≤ (ob : Int) := by omega
  have hi7 : (ob : Int) ≤ (s.size : Int) := by omega
  have hi8 : (0 : Int) ≤ (ob : Int) := by omega
  clear HA HB
  rcases hs1 with ⟨hf, hw1, hm1⟩ | ⟨hf, rfl⟩ <;> rcases hs3 with ⟨m, d, rfl, hm3, hw3⟩ | ⟨hn1, hn2, hw3⟩ | ⟨hn1, hn2, rfl, rfl⟩
  all_goals
    try have hq1 : ¬ (0 ≤ n) := by omega
    try have hq2 : ¬ (-(r : Int) < n) := by omega
    try have hq3 : ¬ ((a1 : Int) < 0) := by omega
    go_enter Tryd.func13, Tryd.ntmps13
    go_wp2_with (first | (go_at_call 20; go_must (refine (offsets_any s _ hsz).mono ?_; rintro e w1 ⟨A, c, rfl, ho, hbw⟩; rw [hl] at ho ⊢; obtain ⟨bb, off, rfl, hbb, hcc⟩ := RdI.opened ho.rd (Nat.succ_pos _); (have ca := hcc _ (Nat.lt_succ_of_le ha)); (have cb := hcc _ (Nat.lt_succ_of_le hb2)); (rw [show (offs s).getD _ 0 = _ from HOA.out] at ca); (rw [show (offs s).getD _ 0 = _ from HOB.out] at cb); clear hcc)))
  all_goals
    go_quiet (fail)
    go_wp2
    go_ret
    exact ⟨by first | rfl | (apply ret_val; simp), by first | exact below_drewN hbw _ | exact hbw⟩

end Go.Proofs.YtiggholdcebjjaaDoor
