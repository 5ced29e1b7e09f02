/- The walk of change.Encode. Printed by gen_c16.py -/
import Derived.Test.YtbeijpajodgpeaaDoorC6
import Derived.Test.YtbeijpajodgpeaaDoorM4
import Derived.Test.YtbeijpajodgpeaaDoorMW
namespace Go.Proofs.YtbeijpajodgpeaaDoor
open Go.RowKit
set_option linter.unusedSimpArgs false
set_option linter.unusedVariables false

theorem cv_ne_of {c : Cg} (h : cv c ≠ 0) : (cv c != 0) = true := by simpa using h
/-- the first error stands at the first change that is not valid -/
theorem fstE_at {l : List Cg} {k : Nat} (hk : k < l.length) (h : ∀ j, j < k → cv (l.getD j cg0) = 0) (hb : cv (l.getD k cg0) ≠ 0) : fstE l = cv (l.getD k cg0) := by
  induction l generalizing k with
  | nil => simp at hk
  | cons a r ih =>
    unfold fstE
    cases k with
    | zero =>
      have hb' : cv a ≠ 0 := hb
      rw [if_neg hb']
      rfl
    | succ k =>
      have h0 : cv a = 0 := h 0 (by omega)
      rw [if_pos h0]
      exact ih (k := k) (by simpa using hk) (fun j hj => h (j + 1) (by omega)) hb
theorem fstE_zero {l : List Cg} (h : ∀ j, j < l.length → cv (l.getD j cg0) = 0) : fstE l = 0 := fstE_of fun c hc => by
  obtain ⟨j, hj, e⟩ := List.mem_iff_getElem.1 hc
  have := h j hj
  simp only [List.getD, List.getElem?_eq_getElem hj, Option.getD_some] at this
  rw [← e]; exact this
theorem encC_take {L : List Cg} {k : Nat} (h : k < L.length) : (L.take (k + 1)).flatMap encC = (L.take k).flatMap encC ++ encC (L.getD k cg0) := by
  have e : L.take (k + 1) = L.take k ++ [L.getD k cg0] := by
    rw [List.take_add_one, List.getElem?_eq_getElem h]
    simp only [List.getD, List.getElem?_eq_getElem h, Option.getD_some, Option.toList_some]
  rw [e, List.flatMap_append, List.flatMap_singleton]
theorem cgwf_at {L : List Cg} (h : ∀ a ∈ L, CgWf a) {k : Nat} (hk : k < L.length) : CgWf (L.getD k cg0) := by
  have hm : L.getD k cg0 ∈ L := by simp only [List.getD, List.getElem?_eq_getElem hk, Option.getD_some]; exact List.getElem_mem hk
  exact h _ hm

set_option maxRecDepth 100000 in
set_option maxHeartbeats 16000000 in
theorem encode_any (A : Option Addr) (n c : Nat) (L : List Cg) (x : Int) (w : World) (h : RdR RC 10 w A n c L) (hwf : ∀ a ∈ L, CgWf a) (hx : Hm x w) :
    Calls Tryd.prog 13 #[.slice A n c] w (REnc w L) := by
  have HL := Lib.hid h.len
  by_cases hl : n < 1 ∨ 16 < n
  · have HE : Hid (ecE L = 2) := Lib.hid (ecE_len (by rw [← HL.out]; exact hl))
    have HB : Hid (ecB L = []) := Lib.hid (ecB_no (by rw [HE.out]; decide))
    clear h hwf hx
    by_cases h0 : n < 1
    · have z1 : (n : Int) < 1 := by omega
      clear hl
      go_enter Tryd.func13, Tryd.ntmps13
      go_wp2_with fail
      go_ret2
      exact ⟨none, 0, 0, by rw [HE.out]; rfl, by rw [HB.out]; exact OwB.nil _ _ _, Below.refl _ _⟩
    · have z1 : ¬ (n : Int) < 1 := by omega
      have z2 : (16 : Int) < (n : Int) := by omega
      clear hl
      go_enter Tryd.func13, Tryd.ntmps13
      go_wp2_with fail
      go_ret2
      exact ⟨none, 0, 0, by rw [HE.out]; rfl, by rw [HB.out]; exact OwB.nil _ _ _, Below.refl _ _⟩
  · have hn1 : 1 ≤ n := by omega
    have hn2 : n ≤ 16 := by omega
    have HNL : Hid (¬ (L.length < 1 ∨ 16 < L.length)) := Lib.hid (by rw [← HL.out]; exact hl)
    obtain ⟨b, off, rfl, hb, hc⟩ := RdC.opened h (by omega)
    have HC := Lib.hid hc
    have HWF := Lib.hid hwf
    have HX := Lib.hid hx
    have z1 : ¬ (n : Int) < 1 := by omega
    have z2 : ¬ (16 : Int) < (n : Int) := by omega
    clear hc h hwf hx hl
    go_enter Tryd.func13, Tryd.ntmps13
    go_wp2_with fail
    clear z1 z2
    go_loopw [20] (fun v wr => ∃ k : Nat, k ≤ n ∧ v = .int .i64 k ∧ Below w.heap.size w wr ∧ Hid (∀ j, j < k → cv (L.getD j cg0) = 0)) (fun v _ => n - (intOf v).toNat)
    case atStart => exact ⟨0, Nat.zero_le _, rfl, Below.refl _ _, Lib.hid fun j h => by omega⟩
    case round =>
      obtain ⟨k, hk, rfl, hbw, HB⟩ := hrel
      by_cases hlt : k < n
      · obtain ⟨Ah, nh, ch, x0, x1, x2, x3, x4, x5, x6, x7, x8, x9, hrd⟩ := HC.out k hlt
        have kl : k < L.length := by rw [← HL.out]; exact hlt
        have HW := cgwf_at HWF.out kl
        have HV := Lib.hid fun (W : World) (hW : Below w.heap.size w W) => valid_any (L.getD k cg0) Ah nh ch x W (RdV.below hrd hW) HW.hs (HX.out.below hW)
        have y0 := (hbw.cell (p := ⟨b, off + k * 10, none⟩) hb).trans x0
        have y1 := (hbw.cell (p := ⟨b, off + k * 10 + 1, none⟩) hb).trans x1
        have y2 := (hbw.cell (p := ⟨b, off + k * 10 + 2, none⟩) hb).trans x2
        have y3 := (hbw.cell (p := ⟨b, off + k * 10 + 3, none⟩) hb).trans x3
        have y4 := (hbw.cell (p := ⟨b, off + k * 10 + 4, none⟩) hb).trans x4
        have y5 := (hbw.cell (p := ⟨b, off + k * 10 + 5, none⟩) hb).trans x5
        have y6 := (hbw.cell (p := ⟨b, off + k * 10 + 6, none⟩) hb).trans x6
        have y7 := (hbw.cell (p := ⟨b, off + k * 10 + 7, none⟩) hb).trans x7
        have y8 := (hbw.cell (p := ⟨b, off + k * 10 + 8, none⟩) hb).trans x8
        have y9 := (hbw.cell (p := ⟨b, off + k * 10 + 9, none⟩) hb).trans x9
        have HN := Lib.hid (fun hb0 => fstE_at (l := L) kl HB.out hb0)
        have HS : Hid (cv (L.getD k cg0) = 0 → ∀ j, j < k + 1 → cv (L.getD j cg0) = 0) := Lib.hid fun h j hj => by
          rcases Nat.lt_or_ge j k with h1 | h1
          · exact HB.out j h1
          · obtain rfl : j = k := by omega
            exact h
        clear x0 x1 x2 x3 x4 x5 x6 x7 x8 x9 hrd HW HB
        generalize hcv : cv (L.getD k cg0) = V at *
        have HCV := Lib.hid hcv
        clear hcv
        generalize L.getD k cg0 = r at *
        obtain ⟨kd, us, nt, ts, tn, os, on, tx, z, hs⟩ := r
        unfold cval at HV
        simp only [] at y0 y1 y2 y3 y4 y5 y6 y7 y8 y9 HV
        have z0 : (0 : Int) ≤ (k : Int) := by omega
        have z1 : (k : Int) < (n : Int) := by omega
        have HBA : Hid (Below w.heap.size w (wr.alloc (.cells #[.int .i64 kd, .string us, .string nt, .int .i64 ts, .string tn, .int .i64 os, .string on, .string tx, .int .i64 z, .slice Ah nh ch] 31))) := Lib.hid (hbw.alloc hbw.size _)
        by_cases h0 : V = 0
        · have HS2 := Lib.hid (HS.out h0)
          subst h0
          clear HS HN HCV
          go_wp2_with (go_at_call 18; go_must (refine (HV.out _ HBA.out).mono ?_; rintro e w3 ⟨rfl, hb3⟩))
          go_roundw
          case rel => exact ⟨k + 1, by omega, by go_num, below_call HBA.out hb3, HS2⟩
          case measure => simp [intOf]; omega
        · have HE : Hid (ecE L = V) := Lib.hid (by have e := HN.out h0; rw [ecE_bad HNL.out (by rw [e]; exact h0)]; exact e)
          have HB0 : Hid (ecB L = []) := Lib.hid (ecB_no (by rw [HE.out]; exact h0))
          have q1 : (V != 0) = true := by simpa using h0
          have q2 : (V == 0) = false := by simpa using h0
          clear HS HN HCV h0
          go_wp2_with (go_at_call 18; go_must (refine (HV.out _ HBA.out).mono ?_; rintro e w3 ⟨rfl, hb3⟩))
          go_ret2
          exact ⟨none, 0, 0, by rw [HE.out]; rfl, by rw [HB0.out]; exact OwB.nil _ _ _, below_call HBA.out hb3⟩
      · obtain rfl : k = n := by omega
        have hz : Hid (∀ j, j < L.length → cv (L.getD j cg0) = 0) := Lib.hid (by rw [← HL.out]; exact HB.out)
        have HF := Lib.hid (fstE_zero hz.out)
        clear HB
        have hbz := hbw.size
        obtain ⟨w1, rfl⟩ : ∃ q, q = wr := ⟨_, rfl⟩
        go_wp2_with fail
        go_at_call 27
        refine (num_b none 0 0 [] w.heap.size 0 (k : Int) w1 (OwB.nil _ _ _) hbz (Nat.le_refl _) (by omega) (by omega) (by omega)).mono ?_
        rintro e w2 ⟨A2, n2, c2, rfl, ho2, hg2, hn2⟩
        rw [List.nil_append, Int.toNat_natCast] at ho2
        have hbw2 : Below w.heap.size w w2 := hbw.trans hg2.b
        have HE0 : Hid (nmb k ++ (L.take 0).flatMap encC = nmb k) := Lib.hid (by simp)
        have HEA : Hid (nmb k ++ (L.take k).flatMap encC = encL L) := Lib.hid (by unfold encL; rw [← HL.out, HL.out, List.take_length])
        rw [← HE0.out] at ho2
        clear hbw hg2 HE0
        go_wp2_with fail
        go_loopw [7, 35] (fun s v wr => ∃ (i : Nat) (A3 : Option Addr) (n3 c3 : Nat), i ≤ k ∧ s = .slice A3 n3 c3 ∧ v = .int .i64 i ∧ OwB wr w.heap.size 5 A3 n3 c3 (nmb k ++ (L.take i).flatMap encC) ∧ Below w.heap.size w wr ∧ n3 ≤ 6 + i * 400000) (fun _ v _ => k - (intOf v).toNat)
        case atStart => exact ⟨0, A2, n2, c2, Nat.zero_le _, rfl, rfl, ho2, hbw2, by omega⟩
        case round =>
          obtain ⟨i, A3, n3, c3, hi, rfl, rfl, ho3, hb3, hn3⟩ := hrel
          clear ho2 hbw2 hn2
          have hb3z := hb3.size
          by_cases hlt2 : i < k
          · obtain ⟨Ah, nh, ch, x0, x1, x2, x3, x4, x5, x6, x7, x8, x9, hrd⟩ := HC.out i hlt2
            have kl : i < L.length := by rw [← HL.out]; exact hlt2
            have hcv := hz.out i kl
            have HTK := Lib.hid (encC_take kl)
            have HPP := Lib.hid (put_any w A3 n3 c3 (nmb k ++ (L.take i).flatMap encC) (L.getD i cg0) Ah nh ch)
            have y0 := (hb3.cell (p := ⟨b, off + i * 10, none⟩) hb).trans x0
            have y1 := (hb3.cell (p := ⟨b, off + i * 10 + 1, none⟩) hb).trans x1
            have y2 := (hb3.cell (p := ⟨b, off + i * 10 + 2, none⟩) hb).trans x2
            have y3 := (hb3.cell (p := ⟨b, off + i * 10 + 3, none⟩) hb).trans x3
            have y4 := (hb3.cell (p := ⟨b, off + i * 10 + 4, none⟩) hb).trans x4
            have y5 := (hb3.cell (p := ⟨b, off + i * 10 + 5, none⟩) hb).trans x5
            have y6 := (hb3.cell (p := ⟨b, off + i * 10 + 6, none⟩) hb).trans x6
            have y7 := (hb3.cell (p := ⟨b, off + i * 10 + 7, none⟩) hb).trans x7
            have y8 := (hb3.cell (p := ⟨b, off + i * 10 + 8, none⟩) hb).trans x8
            have y9 := (hb3.cell (p := ⟨b, off + i * 10 + 9, none⟩) hb).trans x9
            clear x0 x1 x2 x3 x4 x5 x6 x7 x8 x9
            generalize L.getD i cg0 = r at *
            obtain ⟨kd, us, nt, ts, tn, os, on, tx, z, hs⟩ := r
            unfold cval at HPP
            simp only [] at y0 y1 y2 y3 y4 y5 y6 y7 y8 y9 hrd HPP
            have HCV := Lib.hid hcv
            have z0 : (0 : Int) ≤ (i : Int) := by omega
            have z1 : (i : Int) < (k : Int) := by omega
            have HBA : Hid (Below w.heap.size w (wr.alloc (.cells #[.int .i64 kd, .string us, .string nt, .int .i64 ts, .string tn, .int .i64 os, .string on, .string tx, .int .i64 z, .slice Ah nh ch] 31))) := Lib.hid (hb3.alloc hb3z _)
            have ho3a := OwB.alloc (.cells #[.int .i64 kd, .string us, .string nt, .int .i64 ts, .string tn, .int .i64 os, .string on, .string tx, .int .i64 z, .slice Ah nh ch] 31) ho3
            clear hcv ho3
            go_wp2_with (go_at_call 28; go_must (refine (HPP.out _ ho3a HBA.out hrd HCV.out (by omega)).mono ?_; rintro e w4 ⟨A4, n4, c4, rfl, ho4, hg4, hn4⟩))
            rw [List.append_assoc, ← HTK.out] at ho4
            go_roundw
            case rel => exact ⟨i + 1, A4, n4, c4, by omega, rfl, by go_num, ho4, HBA.out.trans hg4.b, by omega⟩
            case measure => simp [intOf]; omega
          · obtain rfl : i = k := by omega
            rw [HEA.out] at ho3
            have hlen := Lib.hid ho3.len
            by_cases hbig : 65536 < n3
            · have HE : Hid (ecE L = 3) := Lib.hid (ecE_big HNL.out HF.out (by rw [← hlen.out]; exact hbig))
              have HB0 : Hid (ecB L = []) := Lib.hid (ecB_no (by rw [HE.out]; decide))
              have q1 : (65536 : Int) < (n3 : Int) := by omega
              go_wp2_with fail
              go_ret2
              exact ⟨none, 0, 0, by rw [HE.out]; rfl, by rw [HB0.out]; exact OwB.nil _ _ _, hb3⟩
            · have HE : Hid (ecE L = 0) := Lib.hid (ecE_yes HNL.out HF.out (by rw [← hlen.out]; exact hbig))
              have HB0 := Lib.hid (ecB_yes HE.out)
              have q1 : ¬ (65536 : Int) < (n3 : Int) := by omega
              go_wp2_with fail
              go_ret2
              exact ⟨A3, n3, c3, by rw [HE.out]; rfl, by rw [HB0.out]; exact ho3, hb3⟩
end Go.Proofs.YtbeijpajodgpeaaDoor
