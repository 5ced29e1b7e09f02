/- The walk of all. -/
import Derived.Test.YtiggholdcebjjaaDoorS3
import Derived.Test.YtiggholdcebjjaaDoorSPlain3
namespace Go.Proofs.YtiggholdcebjjaaDoor
open Go.RowKit
set_option linter.unusedSimpArgs false
set_option linter.unusedVariables false

def meas (N : Nat) (v : Value) : Nat := match intOf v with
  | .ofNat p => N + 1 - p
  | .negSucc _ => 0
theorem meas_neg (N : Nat) : meas N (.int .i64 (-1)) = 0 := rfl
theorem meas_pos (N p : Nat) : meas N (.int .i64 (p : Int)) = N + 1 - p := rfl
theorem Cells.below {w w' : World} {B b off : Nat} {s : ByteArray} (h : Hid (Cells w b off s)) (hb : Below B w w') (hB : b < B) : Hid (Cells w' b off s) :=
  Lib.hid fun k hk => (hb.cell (p := ⟨b, off + k, none⟩) hB).trans (h.out k hk)

set_option maxRecDepth 100000 in
set_option maxHeartbeats 4000000 in
theorem all_any (s t : ByteArray) (m : Int) (w : World) (hs : s.size ≤ 4294967280) (ht : t.size ≤ 4294967280) (hm : w.cell? ⟨2, 0, none⟩ = some (.int .i64 m)) :
    Calls Tryd.prog 21 #[.string s, .string t] w fun e w' => ∃ A c, e = .returned (.slice A (occs s t).length c) ∧ OwR RI 1 w' w.heap.size 3 A (occs s t).length c (occs s t) ∧ Below w.heap.size w w' := by
  by_cases h0 : t = ByteArray.empty
  · have e1 : occs s t = [] := by unfold occs; rw [if_pos (by rw [h0]; rfl)]
    rw [e1]
    subst h0
    go_enter Tryd.func21, Tryd.ntmps21
    go_wp2
    go_ret
    exact ⟨none, 0, rfl, OwR.nil _ _ _ _ _, Below.refl _ _⟩
  · have hts : t.size ≠ 0 := fun h => h0 (by rcases t with ⟨⟨l⟩⟩; simp [ByteArray.size] at h; subst h; rfl)
    have he : t.toList.isEmpty = false := by
      rw [Bool.eq_false_iff]
      intro h
      rw [List.isEmpty_iff, ByteArray.toList_eq] at h
      exact hts (by have : t.data.toList.length = 0 := by rw [h]; rfl
                    simpa using this)
    have HE : Hid (occs s t = occsI s t 0 0) := Lib.hid (by unfold occs; rw [if_neg hts])
    have hw0 : 2 < w.heap.size := World.block_lt_of_cell? _ _ hm
    obtain ⟨i0, hi, hz0, hz1, hz2⟩ := info_parts int_info
    have hN := NR_le s
    have HZ : Hid (∀ k, k ≤ NR s → O s k ≤ s.size) := Lib.hid fun k hk => O_size hk
    go_enter Tryd.func21, Tryd.ntmps21
    go_wp2_with (first
      | (go_at_call 20; go_must (refine (offsets_any s _ (by omega)).mono ?_; rintro e w1 ⟨A, c, rfl, ho, hb1⟩; obtain ⟨hn, bb, off, rfl, hbb, HC⟩ := RdI.cells ho.rd; rw [hn] at ho ⊢))
      | (go_at_call 31; go_must (refine (occ_any s t bb off c 0 m _ (by omega) ((hb1.cell (p := ⟨2, 0, none⟩) hw0).trans hm) hbb HC).mono ?_; rintro e w2 ⟨rfl, hb2⟩)))
    have HC2 := Cells.below HC hb2 hbb
    have hm2 := (hb2.cell (p := ⟨2, 0, none⟩) (by have := hb1.size; show 2 < _; omega)).trans ((hb1.cell (p := ⟨2, 0, none⟩) hw0).trans hm)
    have hbb2 : bb < w2.heap.size := Nat.lt_of_lt_of_le hbb hb2.size
    have hb3 : Below w.heap.size w w2 := below_call hb1 hb2
    have h02 : 2 < w2.heap.size := World.block_lt_of_cell? _ _ hm2
    clear hb1 hb2 HC hbb
    obtain ⟨N, hNN⟩ : ∃ N, N = NR s := ⟨_, rfl⟩
    have HN : Hid (N = NR s) := Lib.hid hNN
    rw [← hNN] at hN ⊢
    clear hNN hn ho
    obtain ⟨x0, hx0⟩ : ∃ x, x = occI s t 0 := ⟨_, rfl⟩
    rw [← hx0]
    have HX0 := Lib.hid hx0
    clear hx0
    go_loopw [5, 7, 8] (fun v5 v7 v8 wr => ∃ (j e : Nat) (x : Int) (A : Option Addr) (n c : Nat) (L : List Nat), v5 = .slice A n c ∧ v7 = .int .i64 x ∧ OwR RI 1 wr w2.heap.size 3 A n c L ∧ Below w2.heap.size w2 wr ∧ Hid (x = occI s t j) ∧ Hid (L ++ occsI s t j e = occs s t) ∧ Hid (∀ p, j ≤ p → p < N + 1 → e ≤ O s p) ∧ n ≤ j ∧ j ≤ N + 1) (fun _ v7 _ _ => meas N v7)
    case atStart => exact ⟨0, 0, _, none, 0, 0, [], rfl, rfl, OwR.nil _ _ _ _ _, Below.refl _ _, HX0, Lib.hid HE.out.symm, Lib.hid (fun _ _ _ => Nat.zero_le _), by omega, by omega⟩
    case round =>
      obtain ⟨j, e, x, A, n, c2, L, rfl, rfl, hown, hbw, HX, HS, HLE, hn, hj⟩ := hrel
      obtain rfl : n = L.length := hown.len
      have hocc := occsI_occ (s := s) (t := t) (e := e) _ (j := j) rfl (fun p h1 h2 => HLE.out p h1 (by rw [HN.out]; exact h2))
      rcases occI_range (s := s) (t := t) _ (j := j) rfl with hx | ⟨p, hx, hp1, hp2⟩
      · have e1 : occs s t = L := by
          have h1 := HS.out
          rw [hocc.1 hx, List.append_nil] at h1
          exact h1.symm
        have e2 : x = -1 := HX.out.trans hx
        clear hx hocc
        subst e2
        have E1 := Lib.hid e1
        clear e1
        go_wp2
        go_ret
        rw [E1.out]
        exact ⟨A, c2, rfl, hown.mono hb3.size, below_call hb3 hbw⟩
      · have e2 : x = (p : Int) := HX.out.trans hx
        have hst := hocc.2 p hx
        have hpN : p ≤ N := by have := HN.out; omega
        have hop := HZ.out p (by rw [← HN.out]; omega)
        have cj := (hbw.cell (p := ⟨bb, off + p, none⟩) hbb2).trans (HC2.out p (by rw [← HN.out]; omega))
        have hij : (p : Int) < ((N + 1 : Nat) : Int) := by omega
        have hij2 : (p : Int) < (N : Int) + 1 := by omega
        have hij0 : (0 : Int) ≤ (p : Int) := by omega
        have hbz := hbw.size
        obtain ⟨q, hq⟩ : ∃ q, q = O s p := ⟨_, rfl⟩
        obtain ⟨e3, he3⟩ : ∃ e3, e3 = q + t.size := ⟨_, rfl⟩
        have HS2 : Hid (L ++ [q] ++ occsI s t (p + 1) e3 = occs s t) := by
          have h1 := HS.out
          rw [hst] at h1
          rw [List.append_assoc, he3, hq]
          exact Lib.hid h1
        have hw3 : IntKind.i64.wrap ((q : Int) + (t.size : Int)) = (e3 : Int) := by rw [IntKind.wrap_i64]; omega
        rw [← hq] at cj
        have HQ := Lib.hid hq
        have HE3 := Lib.hid he3
        clear hx hocc hst hq he3
        subst e2
        go_wp2_with (first
          | (at_builtin; go_must (refine wpList_append_r _ rfl (.tmp 19) (.tmp 24) 33 rfl 1 8 w2.heap.size 3 i0 (.int .i64 0) RI.stay (by decide) Tryd.underlying33 hi hz0 hz1 hz2 rfl (by omega) A L.length c2 L rfl (OwI.alloc hown _) _ 1 1 rfl [q] [.int .i64 (q : Int)] (Reads.lit (cs := #[.int .i64 (q : Int)]) rfl) (Fits.one rfl rfl) rfl ?_ ?_ ?_ ?_ ?_; (focus (simp [Value.oneCell'])); (focus (unfold maxLen; omega)); (focus omega); (focus (simp; omega)); intro A3 cc w3 ho3 hg3; (have hb5 := (Below.alloc (Below.refl w2.heap.size _) hbz _).trans hg3.b); (have cj3 := (hb5.cell (p := ⟨bb, off + p, none⟩) hbb2).trans cj); (have hb4 := hbw.trans hb5); clear hg3 hb5)))
        clear cj cj3 hij hij2 hij0 hw3
        go_loopw [7] (fun v wi => ∃ j2 : Nat, v = .int .i64 j2 ∧ p ≤ j2 ∧ j2 ≤ N + 1 ∧ Below w3.heap.size w3 wi ∧ Hid (∀ r, p ≤ r → r < j2 → O s r < e3)) (fun v _ => N + 1 - (intOf v).toNat)
        case atStart => exact ⟨p, rfl, Nat.le_refl _, by omega, Below.refl _ _, Lib.hid fun r h1 h2 => by omega⟩
        case round =>
          obtain ⟨j2, rfl, hj1, hj2, hbi, HP⟩ := hrel
          have hbz4 := hb4.size
          have hbi2 : Below w2.heap.size w2 wr := hb4.trans (hbi.mono hbz4)
          have HCi := Cells.below HC2 hbi2 hbb2
          have hmi := (hbi2.cell (p := ⟨2, 0, none⟩) h02).trans hm2
          have hbbi : bb < wr.heap.size := Nat.lt_of_lt_of_le hbb2 hbi2.size
          have hij0 : (0 : Int) ≤ (j2 : Int) := by omega
          have fin : (j2 < N + 1 → ¬ O s j2 < e3) → p < j2 ∧ Hid (L ++ [q] ++ occsI s t j2 e3 = occs s t) ∧ Hid (∀ r, j2 ≤ r → r < N + 1 → e3 ≤ O s r) := fun hout => by
            have hlt : p < j2 := by
              rcases Nat.lt_or_eq_of_le hj1 with h | h
              · exact h
              · have h1 := hout (by omega)
                rw [← h, ← HQ.out] at h1
                have := HE3.out
                omega
            refine ⟨hlt, ?_, Lib.hid fun r h1 h2 => ?_⟩
            · obtain ⟨d, hd⟩ : ∃ d, p + 1 + d = j2 := ⟨j2 - (p + 1), by omega⟩
              have h1 := HS2.out
              rw [occsI_skip d (by rw [← HN.out]; omega) (fun r h2 h3 => HP.out r (by omega) (by omega)), hd] at h1
              exact Lib.hid h1
            · have h3 := hout (by omega)
              have h4 := O_le (s := s) h1 (by rw [← HN.out]; omega)
              omega
          have FIN := Lib.hid fin
          clear fin
          have hoc : Calls Tryd.prog 31 #[.string s, .string t, .slice (some ⟨bb, off, none⟩) (N + 1) c, .int .i64 j2] wr fun e w' => e = .returned (.int .i64 (occI s t j2)) ∧ Below wr.heap.size wr w' := by
            have := occ_any s t bb off c j2 m wr (by omega) hmi hbbi HCi
            rwa [← HN.out] at this
          have HOC := Lib.hid hoc
          clear hoc hmi
          by_cases hl : j2 < N + 1
          · have cj := HCi.out j2 (by rw [← HN.out]; omega)
            have hij : (j2 : Int) < ((N + 1 : Nat) : Int) := by omega
            have hij2 : (j2 : Int) < (N : Int) + 1 := by omega
            by_cases hlt : O s j2 < e3
            · have hlt2 : (O s j2 : Int) < (e3 : Int) := by omega
              go_wp2
              go_roundw
              case rel => exact ⟨j2 + 1, by go_num, by omega, by omega, hbi, Lib.hid fun r h1 h2 => by
                rcases Nat.lt_or_ge r j2 with h | h
                · exact HP.out r h1 h
                · rwa [show r = j2 by omega]⟩
              case measure => simp [intOf]; omega
            · have hlt2 : ¬ (O s j2 : Int) < (e3 : Int) := by omega
              obtain ⟨hf1, hf2, hf3⟩ := FIN.out (fun _ => hlt)
              go_wp2_with (first | (go_at_call 31; go_must (refine HOC.out.mono ?_; rintro e w5 ⟨rfl, hb5⟩)))
              go_roundw
              case rel => exact ⟨j2, e3, _, A3, _, cc, L ++ [q], rfl, rfl, (ho3.call RI.stay hbi).call RI.stay hb5, hbi2.trans (hb5.mono hbi2.size), rfl, hf2, hf3, by omega, by omega⟩
              case measure =>
                rcases occI_range (s := s) (t := t) _ (j := j2) rfl with hx | ⟨p', hx, hp1', hp2'⟩
                · have hNv := HN.out; rw [hx, meas_neg, meas_pos]; omega
                · have hNv := HN.out; rw [hx, meas_pos, meas_pos]; omega
          · have hij2 : ¬ (j2 : Int) < (N : Int) + 1 := by omega
            obtain ⟨hf1, hf2, hf3⟩ := FIN.out (fun h => absurd h hl)
            go_wp2_with (first | (go_at_call 31; go_must (refine HOC.out.mono ?_; rintro e w5 ⟨rfl, hb5⟩)))
            go_roundw
            case rel => exact ⟨j2, e3, _, A3, _, cc, L ++ [q], rfl, rfl, (ho3.call RI.stay hbi).call RI.stay hb5, hbi2.trans (hb5.mono hbi2.size), rfl, hf2, hf3, by omega, by omega⟩
            case measure =>
              rcases occI_range (s := s) (t := t) _ (j := j2) rfl with hx | ⟨p', hx, hp1', hp2'⟩
              · have hNv := HN.out; rw [hx, meas_neg, meas_pos]; omega
              · have hNv := HN.out; rw [hx, meas_pos, meas_pos]; omega
end Go.Proofs.YtiggholdcebjjaaDoor
