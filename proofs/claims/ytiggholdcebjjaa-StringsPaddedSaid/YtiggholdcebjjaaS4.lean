/- The walks of at and of both Finds. -/
import Derived.Test.YtiggholdcebjjaaS3
namespace Go.Proofs.Ytiggholdcebjjaa
open Go.RowKit
set_option linter.unusedSimpArgs false
set_option linter.unusedVariables false

set_option maxRecDepth 100000 in
set_option maxHeartbeats 1600000 in
theorem at_any (s t : ByteArray) (q : Nat) (w : World) (hq : q ≤ s.size) (hs : s.size ≤ 8796093022207) (ht : t.size ≤ 8796093022207) :
    Calls Try.prog 37 #[.string s, .int .i64 q, .string t] w fun e w' => e = .returned (.bool (stands s t q)) ∧ w' = w := by
  have hw1 : IntKind.i64.wrap ((s.size : Int) - (q : Int)) = (s.size : Int) - (q : Int) := by rw [IntKind.wrap_i64]; omega
  have hw2 : IntKind.i64.wrap ((q : Int) + (t.size : Int)) = ((q + t.size : Nat) : Int) := by rw [IntKind.wrap_i64]; omega
  by_cases h : q + t.size ≤ s.size
  · have HR := Lib.hid (stands_piece (s := s) (t := t) h)
    have g1 : (t.size : Int) ≤ (s.size : Int) - (q : Int) := by omega
    have g2 : (0 : Int) ≤ (q : Int) := by omega
    have g3 : (q : Int) ≤ ((q + t.size : Nat) : Int) := by omega
    have g4 : ((q + t.size : Nat) : Int) ≤ (s.size : Int) := by omega
    obtain ⟨z, hz⟩ : ∃ z, z = q + t.size := ⟨_, rfl⟩
    rw [← hz] at hw2 g3 g4 HR
    clear hz h
    go_enter Try.func37, Try.ntmps37
    go_wp2
    go_ret
    exact ⟨by rw [← HR.out]; rfl, rfl⟩
  · have g1 : ¬ ((t.size : Int) ≤ (s.size : Int) - (q : Int)) := by omega
    rw [stands_short hq h]
    clear h
    go_enter Try.func37, Try.ntmps37
    go_wp2
    go_ret
    exact ⟨rfl, rfl⟩

set_option maxRecDepth 100000 in
set_option maxHeartbeats 1600000 in
theorem find_any (s t : ByteArray) (F m : Int) (w : World) (hs : s.size ≤ 4294967280) (hm : w.cell? ⟨0, 0, none⟩ = some (.int .i64 m)) :
    Calls Try.prog 18 #[.string s, .string t, .int .i64 F] w fun e w' => e = .returned (.int .i64 (occI s t F.toNat)) ∧ Below w.heap.size w w' := by
  have h0 : 0 < w.heap.size := World.block_lt_of_cell? _ _ hm
  have hx : max F 0 = ((F.toNat : Nat) : Int) := by omega
  obtain ⟨i, hi⟩ : ∃ i, i = F.toNat := ⟨_, rfl⟩
  rw [← hi] at hx ⊢
  clear hi
  go_enter Try.func18, Try.ntmps18
  go_wp2_with (first
    | (go_at_call 35; go_must (refine (offsets_any s _ (by omega)).mono ?_; rintro e w1 ⟨A, c, rfl, ho, hb1⟩; obtain ⟨hn, bb, off, rfl, hbb, HC⟩ := RdI.cells ho.rd; rw [hn] at ho ⊢))
    | (go_at_call 36; go_must (refine (occ_any s t bb off c i m _ (by omega) ((hb1.cell (p := ⟨0, 0, none⟩) h0).trans hm) hbb HC).mono ?_; rintro e w2 ⟨rfl, hb2⟩)))
  go_ret
  exact ⟨rfl, below_call hb1 hb2⟩

set_option maxRecDepth 100000 in
set_option maxHeartbeats 1600000 in
theorem rfind_any (s t : ByteArray) (F : Int) (w : World) (hs : s.size ≤ 8796093022207) (ht : t.size ≤ 8796093022207) :
    Calls Try.prog 19 #[.string s, .string t, .int .i64 F] w fun e w' => e = .returned (.int .i64 (occI s t F.toNat)) ∧ Below w.heap.size w w' := by
  have hx : max 0 F = ((F.toNat : Nat) : Int) := by omega
  obtain ⟨i, hi⟩ : ∃ i, i = F.toNat := ⟨_, rfl⟩
  rw [← hi] at hx ⊢
  clear hi
  have hN := NR_le s
  have HZ : Hid (∀ k, k ≤ NR s → O s k ≤ s.size) := Lib.hid fun k hk => O_size hk
  go_enter Try.func19, Try.ntmps19
  go_wp2_with (first
    | (go_at_call 34; go_must (refine (starts_any s _ hs).mono ?_; rintro e w1 ⟨A, c, rfl, ho, hb1⟩; obtain ⟨hn, bb, off, rfl, hbb, HC⟩ := RdI.cells ho.rd; rw [hn] at ho ⊢)))
  obtain ⟨N, hNN⟩ : ∃ N, N = NR s := ⟨_, rfl⟩
  have HN : Hid (N = NR s) := Lib.hid hNN
  rw [← hNN] at hN ⊢
  clear hNN hn ho
  go_loopw [8] (fun v wr => ∃ j : Nat, v = .int .i64 j ∧ Below w1.heap.size w1 wr ∧ Hid (occI s t j = occI s t i)) (fun v _ => N + 1 - (intOf v).toNat)
  case atStart => exact ⟨i, rfl, Below.refl _ _, rfl⟩
  case round =>
    obtain ⟨j, rfl, hbw, HS⟩ := hrel
    by_cases hj : j < N + 1
    · have cj := (hbw.cell (p := ⟨bb, off + j, none⟩) hbb).trans (HC.out j (by rw [← HN.out]; omega))
      have hoj := HZ.out j (by rw [← HN.out]; omega)
      have hij : (j : Int) < ((N + 1 : Nat) : Int) := by omega
      have hij2 : (j : Int) < (N : Int) + 1 := by omega
      have hij0 : (0 : Int) ≤ (j : Int) := by omega
      cases hst : stands s t (O s j)
      · have e1 : occI s t j = occI s t (j + 1) := occI_miss (by rw [← HN.out]; omega) hst
        go_wp2_with (first | (go_at_call 37; go_must (refine (at_any s t (O s j) _ hoj hs ht).mono ?_; rw [hst]; rintro e w2 ⟨rfl, rfl⟩)))
        go_roundw
        case rel => exact ⟨j + 1, by go_num, hbw, Lib.hid (e1.symm.trans HS.out)⟩
        case measure => simp [intOf]; omega
      · have e1 : occI s t j = (j : Int) := occI_hit (by rw [← HN.out]; omega) hst
        go_wp2_with (first | (go_at_call 37; go_must (refine (at_any s t (O s j) _ hoj hs ht).mono ?_; rw [hst]; rintro e w2 ⟨rfl, rfl⟩)))
        go_ret
        exact ⟨by rw [← HS.out, e1]; rfl, below_call hb1 hbw⟩
    · have e1 : occI s t j = -1 := occI_past (by rw [← HN.out]; exact hj)
      have hij2 : ¬ ((j : Int) < (N : Int) + 1) := by omega
      go_wp2
      go_ret
      exact ⟨by rw [← HS.out, e1]; rfl, below_call hb1 hbw⟩
end Go.Proofs.Ytiggholdcebjjaa
