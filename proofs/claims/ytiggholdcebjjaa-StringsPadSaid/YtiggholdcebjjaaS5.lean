/- The walk of occurrences. -/
import Derived.Test.YtiggholdcebjjaaS4
import Derived.Test.YtiggholdcebjjaaSPlain3
namespace Go.Proofs.Ytiggholdcebjjaa
open Go.RowKit
set_option linter.unusedSimpArgs false
set_option linter.unusedVariables false

set_option maxRecDepth 100000 in
set_option maxHeartbeats 4000000 in
theorem roccs_any (s t : ByteArray) (w : World) (hs : s.size ≤ 4294967280) (ht : t.size ≤ 4294967280) :
    Calls Try.prog 39 #[.string s, .string t] w fun e w' => ∃ A c, e = .returned (.slice A (occs s t).length c) ∧ OwR RI 1 w' w.heap.size 3 A (occs s t).length c (occs s t) ∧ Below w.heap.size w w' := by
  by_cases h0 : t = ByteArray.empty
  · have e1 : occs s t = [] := by unfold occs; rw [if_pos (by rw [h0]; rfl)]
    rw [e1]
    subst h0
    go_enter Try.func39, Try.ntmps39
    go_wp2
    go_ret
    exact ⟨none, 0, rfl, OwR.nil _ _ _ _ _, Below.refl _ _⟩
  · have hts : t.size ≠ 0 := fun h => h0 (by rcases t with ⟨⟨l⟩⟩; simp [ByteArray.size] at h; subst h; rfl)
    have he : t.toList.isEmpty = false := by
      rw [Bool.eq_false_iff]
      intro h
      rw [List.isEmpty_iff, ByteArray.toList_eq] at h
      exact hts (by have : t.data.toList.length = 0 := by rw [h]; rfl
                    simpa using this)
    have HE : Hid (occs s t = occsI s t 0 0) := Lib.hid (by unfold occs; rw [if_neg hts])
    obtain ⟨i0, hi, hz0, hz1, hz2⟩ := info_parts int_info
    have hN := NR_le s
    have HZ : Hid (∀ k, k ≤ NR s → O s k ≤ s.size) := Lib.hid fun k hk => O_size hk
    go_enter Try.func39, Try.ntmps39
    go_wp2_with (first
      | (go_at_call 34; go_must (refine (starts_any s _ (by omega)).mono ?_; rintro e w1 ⟨A, c, rfl, ho, hb1⟩; obtain ⟨hn, bb, off, rfl, hbb, HC⟩ := RdI.cells ho.rd; rw [hn] at ho ⊢)))
    obtain ⟨N, hNN⟩ : ∃ N, N = NR s := ⟨_, rfl⟩
    have HN : Hid (N = NR s) := Lib.hid hNN
    rw [← hNN] at hN ⊢
    clear hNN hn ho
    go_loopw [5, 7, 8] (fun v5 v7 v8 wr => ∃ (p e : Nat) (A : Option Addr) (n c : Nat) (L : List Nat), v5 = .slice A n c ∧ v7 = .int .i64 e ∧ v8 = .int .i64 p ∧ OwR RI 1 wr w1.heap.size 3 A n c L ∧ Below w1.heap.size w1 wr ∧ Hid (L ++ occsI s t p e = occs s t) ∧ n ≤ p ∧ p ≤ N + 1 ∧ e ≤ s.size + t.size) (fun _ _ v8 _ => N + 1 - (intOf v8).toNat)
    case atStart => exact ⟨0, 0, none, 0, 0, [], rfl, rfl, rfl, OwR.nil _ _ _ _ _, Below.refl _ _, Lib.hid HE.out.symm, by omega, by omega, by omega⟩
    case round =>
      obtain ⟨p, e, A, n, c2, L, rfl, rfl, rfl, hown, hbw, HS, hn, hp, hee⟩ := hrel
      obtain rfl : n = L.length := hown.len
      by_cases hj : p < N + 1
      · have cj := (hbw.cell (p := ⟨bb, off + p, none⟩) hbb).trans (HC.out p (by rw [← HN.out]; omega))
        have hoj := HZ.out p (by rw [← HN.out]; omega)
        have hij : (p : Int) < ((N + 1 : Nat) : Int) := by omega
        have hij2 : (p : Int) < (N : Int) + 1 := by omega
        have hij0 : (0 : Int) ≤ (p : Int) := by omega
        have hbz := hbw.size
        by_cases hle : e ≤ O s p
        · have hle2 : (e : Int) ≤ (O s p : Int) := by omega
          cases hst : stands s t (O s p)
          · have HS2 : Hid (L ++ occsI s t (p + 1) e = occs s t) := by
              have h1 := HS.out
              rw [occsI_leave (by rw [← HN.out]; omega) (by rw [hst]; simp)] at h1
              exact Lib.hid h1
            go_wp2_with (first | (go_at_call 37; go_must (refine (at_any s t (O s p) _ hoj (by omega) (by omega)).mono ?_; rw [hst]; rintro e2 w2 ⟨rfl, rfl⟩)))
            go_roundw
            case rel => exact ⟨p + 1, e, A, _, c2, L, rfl, rfl, by go_num, hown, hbw, HS2, by omega, by omega, by omega⟩
            case measure => simp [intOf]; omega
          · have HS2 : Hid (L ++ [O s p] ++ occsI s t (p + 1) (O s p + t.size) = occs s t) := by
              have h1 := HS.out
              rw [occsI_take (by rw [← HN.out]; omega) hle hst] at h1
              rw [List.append_assoc]
              exact Lib.hid h1
            have hw3 : IntKind.i64.wrap ((O s p : Int) + (t.size : Int)) = ((O s p + t.size : Nat) : Int) := by rw [IntKind.wrap_i64]; omega
            have hat : ∀ W : World, Calls Try.prog 37 #[.string s, .int .i64 (O s p), .string t] W fun e w' => e = .returned (.bool true) ∧ w' = W := fun W => by
              have := at_any s t (O s p) W hoj (by omega) (by omega)
              rwa [hst] at this
            have HAT := Lib.hid hat
            obtain ⟨q, hq⟩ : ∃ q, q = O s p := ⟨_, rfl⟩
            rw [← hq] at HAT cj hw3 HS2 hle2 hoj
            obtain ⟨e3, he3⟩ : ∃ e3, e3 = q + t.size := ⟨_, rfl⟩
            rw [← he3] at hw3 HS2
            have HE3 := Lib.hid he3
            clear hat hst HS hle hq he3
            go_wp2_with (first
              | (go_at_call 37; go_must (refine (HAT.out _).mono ?_; rintro e2 w2 ⟨rfl, rfl⟩))
              | (at_builtin; go_must (refine wpList_append_r _ rfl (.tmp 34) (.tmp 39) 40 rfl 1 8 w1.heap.size 3 i0 (.int .i64 0) RI.stay (by decide) Try.underlying40 hi hz0 hz1 hz2 rfl (by omega) A L.length c2 L rfl (OwI.alloc hown _) _ 1 1 rfl [q] [.int .i64 (q : Int)] (Reads.lit (cs := #[.int .i64 (q : Int)]) rfl) (Fits.one rfl rfl) rfl ?_ ?_ ?_ ?_ ?_; (focus (simp [Value.oneCell'])); (focus (unfold maxLen; omega)); (focus omega); (focus (simp; omega)); intro A3 cc w3 ho3 hg3; (have hb3 := (Below.alloc (Below.refl w1.heap.size _) hbz _).trans hg3.b); (have cj3 := (hb3.cell (p := ⟨bb, off + p, none⟩) hbb).trans cj); (have hb4 := hbw.trans hb3); clear hg3 hb3)))
            go_roundw
            case rel => exact ⟨p + 1, e3, A3, _, cc, L ++ [q], rfl, rfl, by go_num, ho3, hb4, HS2, by omega, by omega, by have := HE3.out; omega⟩
            case measure => simp [intOf]; omega
        · have hle2 : ¬ (e : Int) ≤ (O s p : Int) := by omega
          have HS2 : Hid (L ++ occsI s t (p + 1) e = occs s t) := by
            have h1 := HS.out
            rw [occsI_leave (by rw [← HN.out]; omega) (fun h => hle h.1)] at h1
            exact Lib.hid h1
          go_wp2
          go_roundw
          case rel => exact ⟨p + 1, e, A, _, c2, L, rfl, rfl, by go_num, hown, hbw, HS2, by omega, by omega, by omega⟩
          case measure => simp [intOf]; omega
      · have e1 : occs s t = L := by
          have h1 := HS.out
          rw [occsI_past (by rw [← HN.out]; exact hj), List.append_nil] at h1
          exact h1.symm
        have hij2 : ¬ ((p : Int) < (N : Int) + 1) := by omega
        rw [e1]
        go_wp2
        go_ret
        exact ⟨A, c2, rfl, hown.mono hb1.size, below_call hb1 hbw⟩
end Go.Proofs.Ytiggholdcebjjaa
