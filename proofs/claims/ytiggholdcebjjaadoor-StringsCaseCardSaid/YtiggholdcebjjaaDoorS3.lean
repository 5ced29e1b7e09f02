/- The walk of occurrence. -/
import Derived.Test.YtiggholdcebjjaaDoorS2
import Derived.Test.YtiggholdcebjjaaDoorSPlain2
namespace Go.Proofs.YtiggholdcebjjaaDoor
open Go.RowKit
set_option linter.unusedSimpArgs false
set_option linter.unusedVariables false

/-- the cells of the offsets of s -/
def Cells (w : World) (b off : Nat) (s : ByteArray) : Prop := ∀ k, k ≤ NR s → w.cell? ⟨b, off + k, none⟩ = some (.int .i64 ((O s k : Nat) : Int))
theorem RdI.cells {w : World} {A : Option Addr} {c n : Nat} {s : ByteArray} (h : RdR RI 1 w A n c (offs s)) : n = NR s + 1 ∧ ∃ b off, A = some ⟨b, off, none⟩ ∧ b < w.heap.size ∧ Hid (Cells w b off s) := by
  have hn : n = NR s + 1 := h.len.trans (offs_len s)
  obtain ⟨b, off, e, hb, hc⟩ := RdI.opened h (by omega)
  exact ⟨hn, b, off, e, hb, Lib.hid fun k hk => hc k (by omega)⟩

set_option maxRecDepth 100000 in
set_option maxHeartbeats 4000000 in
theorem occ_any (s t : ByteArray) (b off c i : Nat) (m : Int) (w : World) (hsz : s.size < 4294967281) (hm : w.cell? ⟨2, 0, none⟩ = some (.int .i64 m)) (hb : b < w.heap.size) (hc : Hid (Cells w b off s)) :
    Calls Tryd.prog 31 #[.string s, .string t, .slice (some ⟨b, off, none⟩) (NR s + 1) c, .int .i64 i] w fun e w' => e = .returned (.int .i64 (occI s t i)) ∧ Below w.heap.size w w' := by
  have h0 : 2 < w.heap.size := World.block_lt_of_cell? _ _ hm
  have hN := NR_le s
  have HZ : Hid (∀ k, k ≤ NR s → O s k ≤ s.size) := Lib.hid fun k hk => O_size hk
  have HL : Hid (O s (NR s) = s.size) := Lib.hid (O_last s)
  have HI := fun a ha => Lib.hid (index_rest s t a ha)
  have HI2 := Lib.hid HI
  clear HI
  obtain ⟨N, hNN⟩ : ∃ N, N = NR s := ⟨_, rfl⟩
  have HN : Hid (N = NR s) := Lib.hid hNN
  rw [← hNN] at hN ⊢
  clear hNN
  go_enter Tryd.func31, Tryd.ntmps31
  go_wp2
  go_loopw [3] (fun v wr => ∃ j : Nat, v = .int .i64 j ∧ Below w.heap.size w wr ∧ Hid (occI s t j = occI s t i)) (fun v _ => N + 1 - (intOf v).toNat)
  case atStart => exact ⟨i, rfl, Below.refl _ _, rfl⟩
  case round =>
    obtain ⟨j, rfl, hbw, HS⟩ := hrel
    by_cases hj : j < N + 1
    · have cj := (hbw.cell (p := ⟨b, off + j, none⟩) hb).trans (hc.out j (by rw [← HN.out]; omega))
      have hoj := HZ.out j (by rw [← HN.out]; omega)
      have hix := HI2.out (O s j) hoj
      have hmr := (hbw.cell (p := ⟨2, 0, none⟩) h0).trans hm
      have hij : (j : Int) < ((N + 1 : Nat) : Int) := by omega
      have hij2 : (j : Int) < (N : Int) + 1 := by omega
      have hij0 : (0 : Int) ≤ (j : Int) := by omega
      have hoi0 : (0 : Int) ≤ (O s j : Int) := by omega
      have hoi1 : (O s j : Int) ≤ (s.size : Int) := by omega
      obtain ⟨x, hx⟩ : ∃ x, x = Lib.index (s.extract (O s j) s.size).data.toList t.data.toList := ⟨_, rfl⟩
      have hcall : ∀ W : World, W.cell? ⟨2, 0, none⟩ = some (.int .i64 m) → Calls Tryd.prog 36 #[.string (s.extract (O s j) s.size), .string t] W fun e w' => e = .returned (.int .i64 x) ∧ w' = W := fun W hW => by
        rw [hx]
        exact Tryd.strings_Index _ _ m W (by simp [ByteArray.size_extract]; omega) hW
      rw [← hx] at hix
      have HC := Lib.hid hcall
      have HO : Hid (∃ q, q = O s j) := ⟨_, rfl⟩
      clear hcall hx HI2
      rcases hix.out with ⟨rfl, h2⟩ | ⟨k, rfl, h1, h2, h3⟩
      · have e1 : occI s t j = -1 := occI_none fun p hp1 hp2 => h2 _ (O_le hp1 (by omega)) (HZ.out p (by omega))
        have H2 := Lib.hid h2
        clear h2 hix
        go_wp2_with (first | (go_at_call 36; refine (HC.out _ ?_).mono ?_; (focus exact hmr); rintro e w1 ⟨rfl, rfl⟩))
        go_ret
        exact ⟨by rw [← HS.out, e1]; rfl, hbw⟩
      · have H3 := Lib.hid h2
        have H2 := Lib.hid h3
        clear h2 h3 hix
        have hw1 : IntKind.i64.wrap ((O s j : Int) + (k : Int)) = ((O s j + k : Nat) : Int) := by rw [IntKind.wrap_i64]; omega
        have hk0 : ¬ ((k : Int) < 0) := by omega
        obtain ⟨q, hq⟩ : ∃ q, q = O s j + k := ⟨_, rfl⟩
        rw [← hq] at hw1 H2 H3 h1
        have HQ := Lib.hid hq
        clear hq
        go_wp2_with (first | (go_at_call 36; refine (HC.out _ ?_).mono ?_; (focus exact hmr); rintro e w1 ⟨rfl, rfl⟩))
        clear cj hmr hoi0 hoi1 hw1 hk0 hij hij2 hij0
        go_loopw [3] (fun v w2 => ∃ j2 : Nat, v = .int .i64 j2 ∧ j ≤ j2 ∧ j2 ≤ N ∧ Below w.heap.size w w2 ∧ Hid (∀ p, j ≤ p → p < j2 → O s p < q)) (fun v _ => N - (intOf v).toNat)
        case atStart => exact ⟨j, rfl, Nat.le_refl _, by omega, hbw, Lib.hid fun p h1 h2 => by omega⟩
        case round =>
          rename_i wr
          obtain ⟨j2, rfl, hj1, hj2, hbw, HP⟩ := hrel
          have cj := (hbw.cell (p := ⟨b, off + j2, none⟩) hb).trans (hc.out j2 (by rw [← HN.out]; omega))
          have hij : (j2 : Int) < ((N + 1 : Nat) : Int) := by omega
          have hij2 : (j2 : Int) < (N : Int) + 1 := by omega
          have hij0 : (0 : Int) ≤ (j2 : Int) := by omega
          have hout : ∀ p, j ≤ p → p < j2 → stands s t (O s p) = false := fun p hp1 hp2 => H2.out _ (O_le hp1 (by rw [← HN.out]; omega)) (HP.out p hp1 hp2)
          have HOUT := Lib.hid hout
          clear hout
          by_cases hlt : O s j2 < q
          · have hjN : j2 < N := by
              rcases Nat.lt_or_ge j2 N with h | h
              · exact h
              · have e2 : j2 = NR s := by rw [← HN.out]; omega
                rw [e2, HL.out] at hlt
                omega
            have hlt2 : (O s j2 : Int) < (q : Int) := by omega
            go_wp2
            go_roundw
            case rel => exact ⟨j2 + 1, by go_num, by omega, by omega, hbw, Lib.hid fun p hp1 hp2 => by
              rcases Nat.lt_or_ge p j2 with h | h
              · exact HP.out p hp1 h
              · rwa [show p = j2 by omega]⟩
            case measure => simp [intOf]; omega
          · have hlt2 : ¬ (O s j2 : Int) < (q : Int) := by omega
            by_cases heq : O s j2 = q
            · have heq2 : ((O s j2 : Int) == (q : Int)) = true := by simp; omega
              have e1 : occI s t j = (j2 : Int) := by
                obtain ⟨d, hd⟩ : ∃ d, j + d = j2 := ⟨j2 - j, by omega⟩
                rw [occI_skip d (by rw [← HN.out]; omega) (fun p hp1 hp2 => HOUT.out p hp1 (by omega)), hd]
                exact occI_hit (by rw [← HN.out]; omega) (by rw [heq]; exact H3.out)
              clear heq
              go_wp2
              go_ret
              exact ⟨by rw [← HS.out, e1]; rfl, hbw⟩
            · have heq2 : ((O s j2 : Int) == (q : Int)) = false := by simp; omega
              have HS2 : Hid (occI s t j2 = occI s t i) := by
                obtain ⟨d, hd⟩ : ∃ d, j + d = j2 := ⟨j2 - j, by omega⟩
                have e9 := occI_skip (s := s) (t := t) (i := j) d (by rw [← HN.out]; omega) (fun p hp1 hp2 => HOUT.out p hp1 (by omega))
                rw [hd] at e9
                exact Lib.hid (e9.symm.trans HS.out)
              have hne : j ≠ j2 := by
                intro e
                rw [← e] at hlt heq
                have := HQ.out
                omega
              go_wp2
              go_roundw
              case rel => exact ⟨j2, rfl, hbw, HS2⟩
              case measure => simp [intOf]; omega
    · have e1 : occI s t j = -1 := occI_past (by rw [← HN.out]; exact hj)
      have hij2 : ¬ ((j : Int) < (N : Int) + 1) := by omega
      go_wp2
      go_ret
      exact ⟨by rw [← HS.out, e1]; rfl, hbw⟩
end Go.Proofs.YtiggholdcebjjaaDoor
