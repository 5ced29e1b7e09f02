/- The walk of trcref26.Encode. Printed by gen_c16.py -/
import Derived.Test.YtbeijpajodgpeaaDoorC8
import Derived.Test.YtbeijpajodgpeaaDoorM5
import Derived.Test.YtbeijpajodgpeaaDoorC16
namespace Go.Proofs.YtbeijpajodgpeaaDoor
open Go.RowKit
set_option linter.unusedSimpArgs false
set_option linter.unusedVariables false

set_option maxRecDepth 100000 in
set_option maxHeartbeats 16000000 in
theorem rencode_any (A : Option Addr) (n c : Nat) (L : List Cg) (w : World) (h : RdR RC 10 w A n c L) (hwf : ∀ a ∈ L, CgWf a) :
    Calls Tryd.prog 40 #[.slice A n c] w (REnc w L) := by
  have HL := Lib.hid h.len
  by_cases hl : n < 1 ∨ 16 < n
  · have HE : Hid (ecE L = 2) := Lib.hid (ecE_len (by rw [← HL.out]; exact hl))
    have HB : Hid (ecB L = []) := Lib.hid (ecB_no (by rw [HE.out]; decide))
    clear h hwf
    by_cases h0 : n < 1
    · have z1 : (n : Int) < 1 := by omega
      clear hl
      go_enter Tryd.func40, Tryd.ntmps40
      go_wp2_with fail
      go_ret2
      exact ⟨none, 0, 0, by rw [HE.out]; rfl, by rw [HB.out]; exact OwB.nil _ _ _, Below.refl _ _⟩
    · have z1 : ¬ (n : Int) < 1 := by omega
      have z2 : (16 : Int) < (n : Int) := by omega
      clear hl
      go_enter Tryd.func40, Tryd.ntmps40
      go_wp2_with fail
      go_ret2
      exact ⟨none, 0, 0, by rw [HE.out]; rfl, by rw [HB.out]; exact OwB.nil _ _ _, Below.refl _ _⟩
  · have hn1 : 1 ≤ n := by omega
    have hn2 : n ≤ 16 := by omega
    have HNL : Hid (¬ (L.length < 1 ∨ 16 < L.length)) := Lib.hid (by rw [← HL.out]; exact hl)
    obtain ⟨b, off, rfl, hb, hc⟩ := RdC.opened h (by omega)
    have HC := Lib.hid hc
    have HWF := Lib.hid hwf
    have z1 : ¬ (n : Int) < 1 := by omega
    have z2 : ¬ (16 : Int) < (n : Int) := by omega
    clear hc h hwf hl
    go_enter Tryd.func40, Tryd.ntmps40
    go_wp2_with fail
    clear z1 z2
    go_at_call 57
    refine (rnum_b none 0 0 [] w.heap.size 0 (n : Int) w (OwB.nil _ _ _) (Nat.le_refl _) (Nat.le_refl _) (by omega) (by omega) (by omega)).mono ?_
    rintro e w2 ⟨A2, n2, c2, rfl, ho2, hg2, hn2b⟩
    rw [List.nil_append, Int.toNat_natCast] at ho2
    have hbw2 : Below w.heap.size w w2 := hg2.b
    have HE0 : Hid (nmb n ++ (L.take 0).flatMap encC = nmb n) := Lib.hid (by simp)
    have HEA : Hid (nmb n ++ (L.take n).flatMap encC = encL L) := Lib.hid (by unfold encL; rw [← HL.out, HL.out, List.take_length])
    rw [← HE0.out] at ho2
    clear hg2 HE0
    go_wp2_with fail
    go_loopw [4, 5] (fun s v wr => ∃ (k : Nat) (A3 : Option Addr) (n3 c3 : Nat), k ≤ n ∧ s = .slice A3 n3 c3 ∧ v = .int .i64 k ∧ OwB wr w.heap.size 5 A3 n3 c3 (nmb n ++ (L.take k).flatMap encC) ∧ Below w.heap.size w wr ∧ n3 ≤ 6 + k * 400000 ∧ Hid (∀ j, j < k → cv (L.getD j cg0) = 0)) (fun _ v _ => n - (intOf v).toNat)
    case atStart => exact ⟨0, A2, n2, c2, Nat.zero_le _, rfl, rfl, ho2, hbw2, by omega, Lib.hid fun j h => by omega⟩
    case round =>
      obtain ⟨k, A3, n3, c3, hk, rfl, rfl, ho3, hbw, hn3, HB⟩ := hrel
      clear ho2 hbw2 hn2b
      have hb3z := hbw.size
      by_cases hlt : k < n
      · obtain ⟨Ah, nh, ch, x0, x1, x2, x3, x4, x5, x6, x7, x8, x9, hrd⟩ := HC.out k hlt
        have kl : k < L.length := by rw [← HL.out]; exact hlt
        have HW := cgwf_at HWF.out kl
        have HV := Lib.hid fun (W : World) (hW : Below w.heap.size w W) => rvalid_any (L.getD k cg0) Ah nh ch W (RdV.below hrd hW) HW.hs
        have HTK := Lib.hid (encC_take kl)
        have HPP := Lib.hid (rput_any w A3 n3 c3 (nmb n ++ (L.take k).flatMap encC) (L.getD k cg0) Ah nh ch)
        have y0 := (hbw.cell (p := ⟨b, off + k * 10, none⟩) hb).trans x0
        have y1 := (hbw.cell (p := ⟨b, off + k * 10 + 1, none⟩) hb).trans x1
        have y2 := (hbw.cell (p := ⟨b, off + k * 10 + 2, none⟩) hb).trans x2
        have y3 := (hbw.cell (p := ⟨b, off + k * 10 + 3, none⟩) hb).trans x3
        have y4 := (hbw.cell (p := ⟨b, off + k * 10 + 4, none⟩) hb).trans x4
        have y5 := (hbw.cell (p := ⟨b, off + k * 10 + 5, none⟩) hb).trans x5
        have y6 := (hbw.cell (p := ⟨b, off + k * 10 + 6, none⟩) hb).trans x6
        have y7 := (hbw.cell (p := ⟨b, off + k * 10 + 7, none⟩) hb).trans x7
        have y8 := (hbw.cell (p := ⟨b, off + k * 10 + 8, none⟩) hb).trans x8
        have y9 := (hbw.cell (p := ⟨b, off + k * 10 + 9, none⟩) hb).trans x9
        have HN := Lib.hid (fun hb0 => fstE_at (l := L) kl HB.out hb0)
        have HS : Hid (cv (L.getD k cg0) = 0 → ∀ j, j < k + 1 → cv (L.getD j cg0) = 0) := Lib.hid fun h j hj => by
          rcases Nat.lt_or_ge j k with h1 | h1
          · exact HB.out j h1
          · obtain rfl : j = k := by omega
            exact h
        have HQ := Lib.hid fun (W : World) (hW : Below wr.heap.size wr W) => hbw.trans (hW.mono hb3z)
        clear x0 x1 x2 x3 x4 x5 x6 x7 x8 x9 HW HB
        obtain ⟨V, hcv⟩ : ∃ V, V = cv (L.getD k cg0) := ⟨_, rfl⟩
        rw [← hcv] at HV HN HS
        have HCV := Lib.hid hcv
        clear hcv
        generalize L.getD k cg0 = r at *
        obtain ⟨kd, us, nt, ts, tn, os, on, tx, z, hs⟩ := r
        unfold cval at HV HPP
        simp only [] at y0 y1 y2 y3 y4 y5 y6 y7 y8 y9 HV HPP hrd
        have z0 : (0 : Int) ≤ (k : Int) := by omega
        have z1 : (k : Int) < (n : Int) := by omega
        by_cases h0 : V = 0
        · have HS2 := Lib.hid (HS.out h0)
          have HC0 : Hid (cv ⟨kd, us, nt, ts, tn, os, on, tx, z, hs⟩ = 0) := Lib.hid (by rw [← HCV.out]; exact h0)
          subst h0
          clear HS HN HCV
          go_wp2_with (first
            | (go_at_call 21; go_must (refine (HV.out _ hbw).mono ?_; rintro e w3 ⟨rfl, hb3⟩; (have hQ3 := HQ.out _ hb3); (have ho3b := OwB.call hb3 ho3); (have v0 := (hb3.cell (p := ⟨b, off + k * 10, none⟩) (Nat.lt_of_lt_of_le hb hb3z)).trans y0); (have v1 := (hb3.cell (p := ⟨b, off + k * 10 + 1, none⟩) (Nat.lt_of_lt_of_le hb hb3z)).trans y1); (have v2 := (hb3.cell (p := ⟨b, off + k * 10 + 2, none⟩) (Nat.lt_of_lt_of_le hb hb3z)).trans y2); (have v3 := (hb3.cell (p := ⟨b, off + k * 10 + 3, none⟩) (Nat.lt_of_lt_of_le hb hb3z)).trans y3); (have v4 := (hb3.cell (p := ⟨b, off + k * 10 + 4, none⟩) (Nat.lt_of_lt_of_le hb hb3z)).trans y4); (have v5 := (hb3.cell (p := ⟨b, off + k * 10 + 5, none⟩) (Nat.lt_of_lt_of_le hb hb3z)).trans y5); (have v6 := (hb3.cell (p := ⟨b, off + k * 10 + 6, none⟩) (Nat.lt_of_lt_of_le hb hb3z)).trans y6); (have v7 := (hb3.cell (p := ⟨b, off + k * 10 + 7, none⟩) (Nat.lt_of_lt_of_le hb hb3z)).trans y7); (have v8 := (hb3.cell (p := ⟨b, off + k * 10 + 8, none⟩) (Nat.lt_of_lt_of_le hb hb3z)).trans y8); (have v9 := (hb3.cell (p := ⟨b, off + k * 10 + 9, none⟩) (Nat.lt_of_lt_of_le hb hb3z)).trans y9)))
            | (go_at_call 58; go_must (refine (HPP.out _ ho3b hQ3 hrd HC0.out (by omega)).mono ?_; rintro e w4 ⟨A4, n4, c4, rfl, ho4, hg4, hn4⟩)))
          rw [List.append_assoc, ← HTK.out] at ho4
          go_roundw
          case rel => exact ⟨k + 1, A4, n4, c4, by omega, rfl, by go_num, ho4, hQ3.trans hg4.b, by omega, HS2⟩
          case measure => simp [intOf]; omega
        · have HE : Hid (ecE L = V) := Lib.hid (by have e := HN.out h0; rw [ecE_bad HNL.out (by rw [e]; exact h0)]; exact e)
          have HB0 : Hid (ecB L = []) := Lib.hid (ecB_no (by rw [HE.out]; exact h0))
          have q1 : (V != 0) = true := by simpa using h0
          have q2 : (V == 0) = false := by simpa using h0
          clear HS HN HCV h0
          go_wp2_with (go_at_call 21; go_must (refine (HV.out _ hbw).mono ?_; rintro e w3 ⟨rfl, hb3⟩))
          go_ret2
          exact ⟨none, 0, 0, by rw [HE.out]; rfl, by rw [HB0.out]; exact OwB.nil _ _ _, HQ.out _ hb3⟩
      · obtain rfl : k = n := by omega
        have HF : Hid (fstE L = 0) := Lib.hid (fstE_zero (by rw [← HL.out]; exact HB.out))
        clear HB
        rw [HEA.out] at ho3
        have hlen := Lib.hid ho3.len
        by_cases hbig : 65536 < n3
        · have HE : Hid (ecE L = 3) := Lib.hid (ecE_big HNL.out HF.out (by rw [← hlen.out]; exact hbig))
          have HB0 : Hid (ecB L = []) := Lib.hid (ecB_no (by rw [HE.out]; decide))
          have q1 : (65536 : Int) < (n3 : Int) := by omega
          go_wp2_with fail
          go_ret2
          exact ⟨none, 0, 0, by rw [HE.out]; rfl, by rw [HB0.out]; exact OwB.nil _ _ _, hbw⟩
        · have HE : Hid (ecE L = 0) := Lib.hid (ecE_yes HNL.out HF.out (by rw [← hlen.out]; exact hbig))
          have HB0 := Lib.hid (ecB_yes HE.out)
          have q1 : ¬ (65536 : Int) < (n3 : Int) := by omega
          go_wp2_with fail
          go_ret2
          exact ⟨A3, n3, c3, by rw [HE.out]; rfl, by rw [HB0.out]; exact ho3, hbw⟩
end Go.Proofs.YtbeijpajodgpeaaDoor
