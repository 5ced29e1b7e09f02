/- The walk of TokenLines. -/
import Derived.Test.YtpcnfblpoepmbaaT8
namespace Go.Proofs.Ytpcnfblpoepmbaa
open Go.RowKit
set_option linter.unusedSimpArgs false
set_option linter.unusedVariables false

theorem pr_nl0 : ∀ {p u : List UInt8}, (10 : UInt8) ∉ p → pr p (u ++ [10]) = pr p u
  | [], u, _ => by simp [pr]
  | a :: p, [], h => by
    simp at h
    have : (a == (10 : UInt8)) = false := by simpa using fun e => h.1 e.symm
    simp [pr, List.isPrefixOf, this]
  | a :: p, c :: u, h => by
    simp at h
    have ih := pr_nl0 (p := p) (u := u) h.2
    simp only [pr] at ih
    simp [pr, List.isPrefixOf, ih]
theorem IX_none {s t : List UInt8} (h : IX s t 0 < 0) : ∀ j, j ≤ s.length → pr t (s.drop j) = false := by
  intro j hj
  unfold IX at h
  rcases Lib.index_spec (s.drop 0) t with ⟨_, h2⟩ | ⟨i, h1, h2, h3, _⟩
  · exact h2 j hj
  · rw [h1] at h
    split at h
    · omega
    · omega
theorem RdR.pre {α : Type} {R : World → α → List Value → Prop} {sz : Nat} {w : World} {A : Option Addr} {n c k : Nat} {L : List α} (h : RdR R sz w A n c L) (hk : k ≤ n) : RdR R sz w A k c (L.take k) := by
  obtain ⟨xs, h1, h2⟩ := h.reads
  have hl := h.len
  have hkz : k * sz ≤ n * sz := Nat.mul_le_mul_right sz hk
  refine ⟨by rw [List.length_take]; omega, Nat.le_trans hk h.cap, h.max, xs.take (k * sz), ⟨by rw [List.length_take, h1.1]; omega, fun h0 => ?_⟩, fun j a hj => ?_⟩
  · obtain ⟨ad, e, hb, hc⟩ := h1.2 (by omega)
    refine ⟨ad, e, hb, fun i u hu => hc i u ?_⟩
    rw [List.getElem?_take] at hu
    split at hu
    · exact hu
    · cases hu
  · rw [List.getElem?_take] at hj
    split at hj
    · rename_i hlt
      have h5 := h2 j a hj
      have h6 : (j + 1) * sz ≤ k * sz := Nat.mul_le_mul_right sz hlt
      rw [Nat.add_mul, Nat.one_mul] at h6
      rw [List.drop_take, List.take_take, Nat.min_eq_left (by omega)]
      exact h5
    · cases hj

set_option maxRecDepth 100000 in
set_option maxHeartbeats 8000000 in
theorem lawlines_walk (a b : ByteArray) (m : Int) (w : World) (hm : w.cell? ⟨0, 0, none⟩ = some (.int .i64 m)) :
    Calls Try.prog 4 #[.string a, .string b] w fun e w' => e = .returned (.bool true) ∧ Below w.heap.size w w' := by
  have h0 : 0 < w.heap.size := World.block_lt_of_cell? _ _ hm
  have hx := Below.refl w.heap.size w
  by_cases h1 : (500 : Int) < (a.size : Int)
  · go_enter Try.func4, Try.ntmps4
    go_wp2_with (first | (go_at_call 9; ((with_reducible refine (known_any m _ ((hx.cell (p := ⟨0, 0, none⟩) h0).trans hm)).mono ?_); rintro e wn ⟨rfl, hbn⟩; replace hx := below_call hx hbn; clear hbn)))
    go_ret
    exact ⟨rfl, hx⟩
  by_cases h2 : (500 : Int) < (b.size : Int)
  · go_enter Try.func4, Try.ntmps4
    go_wp2_with (first | (go_at_call 9; ((with_reducible refine (known_any m _ ((hx.cell (p := ⟨0, 0, none⟩) h0).trans hm)).mono ?_); rintro e wn ⟨rfl, hbn⟩; replace hx := below_call hx hbn; clear hbn)))
    go_ret
    exact ⟨rfl, hx⟩
  have HI1 : Hid (∀ W, Calls Try.prog 13 #[.string a, .string ⟨#[60, 33, 45, 45]⟩, .int .i64 0] W fun e w' => e = .returned (.int .i64 (IX (bl a) sCm 0)) ∧ w' = W) := Lib.hid fun W => ix_any a ⟨#[60, 33, 45, 45]⟩ 0 W (Nat.zero_le _) (by omega) (by decide)
  have HI2 : Hid (∀ W, Calls Try.prog 13 #[.string a, .string ⟨#[60, 110, 111, 119, 105, 107, 105, 62]⟩, .int .i64 0] W fun e w' => e = .returned (.int .i64 (IX (bl a) sNo 0)) ∧ w' = W) := Lib.hid fun W => ix_any a ⟨#[60, 110, 111, 119, 105, 107, 105, 62]⟩ 0 W (Nat.zero_le _) (by omega) (by decide)
  by_cases h3 : 0 ≤ IX (bl a) sCm 0
  · generalize IX (bl a) sCm 0 = k at *
    go_enter Try.func4, Try.ntmps4
    go_wp2_with (first | (go_at_call 13; ((with_reducible refine (HI1.out _).mono ?_); rintro e wn ⟨rfl, hwn⟩; obtain rfl := hwn.symm; clear hwn)) | (go_at_call 9; ((with_reducible refine (known_any m _ ((hx.cell (p := ⟨0, 0, none⟩) h0).trans hm)).mono ?_); rintro e wn ⟨rfl, hbn⟩; replace hx := below_call hx hbn; clear hbn)))
    go_ret
    exact ⟨rfl, hx⟩
  by_cases h4 : 0 ≤ IX (bl a) sNo 0
  · generalize IX (bl a) sCm 0 = k at *
    generalize IX (bl a) sNo 0 = k2 at *
    go_enter Try.func4, Try.ntmps4
    go_wp2_with (first | (go_at_call 13; ((with_reducible refine (HI1.out _).mono ?_); rintro e wn ⟨rfl, hwn⟩; obtain rfl := hwn.symm; clear hwn)) | (go_at_call 13; ((with_reducible refine (HI2.out _).mono ?_); rintro e wn ⟨rfl, hwn⟩; obtain rfl := hwn.symm; clear hwn)) | (go_at_call 9; ((with_reducible refine (known_any m _ ((hx.cell (p := ⟨0, 0, none⟩) h0).trans hm)).mono ?_); rintro e wn ⟨rfl, hbn⟩; replace hx := below_call hx hbn; clear hbn)))
    go_ret
    exact ⟨rfl, hx⟩
  have n1 := IX_none (s := bl a) (t := sCm) (by omega)
  have n2 := IX_none (s := bl a) (t := sNo) (by omega)
  have hbla : bl (a ++ ⟨#[10]⟩) = bl a ++ [10] := by simp
  have hz : (a ++ ⟨#[10]⟩ : ByteArray).size = a.size + 1 := by rw [ByteArray.size_append]; rfl
  have HZ : SC (bl (a ++ ⟨#[10]⟩ ++ b)) = SC (bl (a ++ ⟨#[10]⟩)) ++ (SC (bl b)).map (shift (a.size + 1)) := by
    have e1 : bl (a ++ ⟨#[10]⟩ ++ b) = bl a ++ [10] ++ bl b := by simp
    rw [e1, hbla]
    have := SC_lines (a := bl a) (b := bl b) (fun j hj => by rw [List.drop_append_of_le_length hj, pr_nl0 (by decide)]; exact n1 j hj) (fun j hj => by rw [List.drop_append_of_le_length hj, pr_nl0 (by decide)]; exact n2 j hj)
    rw [bl_len] at this
    exact this
  have HA := Lib.hid fun W hW => scan_any (a ++ ⟨#[10]⟩) m W (by omega) hW
  have HB := Lib.hid fun W hW => scan_any b m W (by omega) hW
  have HC := Lib.hid fun W hW => scan_any (a ++ ⟨#[10]⟩ ++ b) m W (by rw [ByteArray.size_append]; omega) hW
  rw [HZ] at HC
  have LX := chain_len (SC_chain (bl (a ++ ⟨#[10]⟩)))
  have LY := chain_len (SC_chain (bl b))
  rw [bl_len] at LX LY
  have HYB : Hid (∀ (k : Nat) (x : Tok), (SC (bl b))[k]? = some x → x.2.1 ≤ 500 ∧ x.2.2 ≤ 500) := Lib.hid fun k x h => by
    have := sc_at (bl b) h
    rw [bl_len] at this
    omega
  generalize SC (bl (a ++ ⟨#[10]⟩)) = X at *
  generalize SC (bl b) = Y at *
  have hZl : (X ++ Y.map (shift (a.size + 1))).length = X.length + Y.length := by simp
  rw [hZl] at HC
  have HXe : Hid ((X ++ Y.map (shift (a.size + 1))).take X.length = X) := Lib.hid (by simp)
  have HYe : Hid (∀ (k : Nat) (x : Tok), Y[k]? = some x → (X ++ Y.map (shift (a.size + 1)))[X.length + k]? = some (x.1, x.2.1 + (a.size + 1), x.2.2 + (a.size + 1))) := Lib.hid fun k x h => by
    rw [List.getElem?_append_right (by omega), Nat.add_sub_cancel_left, List.getElem?_map, h]
    rfl
  generalize X ++ Y.map (shift (a.size + 1)) = Z at *
  rw [← hz] at HYe
  obtain ⟨nx, hnx⟩ : ∃ nx, nx = X.length := ⟨_, rfl⟩
  obtain ⟨ny, hny⟩ : ∃ ny, ny = Y.length := ⟨_, rfl⟩
  rw [← hnx] at HA HC LX HXe HYe
  rw [← hny] at HB HC LY
  have HNY := Lib.hid hny
  obtain ⟨nz, hnz⟩ : ∃ nz, nz = nx + ny := ⟨_, rfl⟩
  rw [← hnz] at HC
  obtain ⟨k1, hk1⟩ : ∃ k, IX (bl a) sCm 0 = k := ⟨_, rfl⟩
  obtain ⟨k2, hk2⟩ : ∃ k, IX (bl a) sNo 0 = k := ⟨_, rfl⟩
  rw [hk1] at HI1 h3
  rw [hk2] at HI2 h4
  have l1 : nx ≤ 501 := by omega
  have l2 : ny ≤ 500 := by omega
  obtain ⟨d, hd⟩ : ∃ d, d = a ++ (⟨#[10]⟩ : ByteArray) := ⟨_, rfl⟩
  rw [← hd] at HA HC HYe hz
  have hcat := hd.symm
  have l3 : d.size ≤ 501 := by omega
  have r1 : ¬ 9223372036854775807 < a.size + 1 := by omega
  have r2 : ¬ 9223372036854775807 < d.size + b.size := by omega
  have q1 : ((nx : Int) + (ny : Int)) = (nz : Int) := by omega
  have l4 : nz ≤ 1001 := by omega
  have HNZ := Lib.hid hnz
  clear hnx hny n1 n2 hbla HZ hZl hk1 hk2 LX LY hd hz hnz
  go_enter Try.func4, Try.ntmps4
  go_wp2_with (first
    | (go_at_call 13; ((with_reducible refine (HI1.out _).mono ?_); rintro e wn ⟨rfl, hwn⟩; obtain rfl := hwn.symm; clear hwn))
    | (go_at_call 13; ((with_reducible refine (HI2.out _).mono ?_); rintro e wn ⟨rfl, hwn⟩; obtain rfl := hwn.symm; clear hwn))
    | (go_at_call 10; ((with_reducible refine (HA.out _ hm).mono ?_); rintro e w1 ⟨A1, c1, rfl, ho1, hb1⟩; have hx1 := below_call hx hb1; have hm1 := (hx1.cell (p := ⟨0, 0, none⟩) h0).trans hm))
    | (go_at_call 10; ((with_reducible refine (HB.out _ hm1).mono ?_); rintro e w2 ⟨A2, c2, rfl, ho2, hb2⟩; have hx2 := below_call hx1 hb2; have hm2 := (hx2.cell (p := ⟨0, 0, none⟩) h0).trans hm; have ho12 := ho1.call RT.stay hb2))
    | (go_at_call 10; ((with_reducible refine (HC.out _ hm2).mono ?_); rintro e w3 ⟨A3, c3, rfl, ho3, hb3⟩; have hx3 := below_call hx2 hb3; have ho13 := ho12.call RT.stay hb3; have ho23 := ho2.call RT.stay hb3)))
  have HO2 := Lib.hid fun h => RdT.opened ho23.rd h
  have HO3 := Lib.hid fun h => RdT.opened ho3.rd h
  have hcap := ho3.cap
  have rx := ho13.rd
  have rz := ho3.rd
  clear ho1 ho12 ho2 ho23 ho13 ho3 r1 r2 hcat hm1 hm2 hb1 hb2 hb3 HA HB HC HI1 HI2
  go_loopw [11] (fun v wr => ∃ k : Nat, k ≤ ny ∧ v = .int .i64 k ∧ Below w3.heap.size w3 wr) (fun v _ => ny - (intOf v).toNat)
  case atStart => exact ⟨0, Nat.zero_le _, rfl, Below.refl _ _⟩
  case round =>
    obtain ⟨k, hk, rfl, hbw⟩ := hrel
    by_cases hlt : k < ny
    · obtain ⟨b2, off2, rfl, hb2, hc2⟩ := HO2.out (by omega)
      obtain ⟨b3, off3, rfl, hb3, hc3⟩ := HO3.out (by have := HNZ.out; omega)
      obtain ⟨x, hxk⟩ : ∃ x, Y[k]? = some x := ⟨Y[k]'(by rw [← HNY.out]; exact hlt), List.getElem?_eq_getElem _⟩
      obtain ⟨p0, p1, p2⟩ := hc2 k x hxk
      obtain ⟨y1, y2⟩ := HYB.out k x hxk
      have hze := HYe.out k x hxk
      obtain ⟨nk, hnk⟩ : ∃ nk, nk = nx + k := ⟨_, rfl⟩
      rw [← hnk] at hze
      obtain ⟨q0, q1', q2⟩ := hc3 nk _ hze
      replace p0 := (hbw.cell (p := ⟨b2, off2 + k * 3, none⟩) hb2).trans p0
      replace p1 := (hbw.cell (p := ⟨b2, off2 + k * 3 + 1, none⟩) hb2).trans p1
      replace p2 := (hbw.cell (p := ⟨b2, off2 + k * 3 + 2, none⟩) hb2).trans p2
      replace q0 := (hbw.cell (p := ⟨b3, off3 + nk * 3, none⟩) hb3).trans q0
      replace q1' := (hbw.cell (p := ⟨b3, off3 + nk * 3 + 1, none⟩) hb3).trans q1'
      replace q2 := (hbw.cell (p := ⟨b3, off3 + nk * 3 + 2, none⟩) hb3).trans q2
      clear hc2 hc3 hxk hze
      obtain ⟨x0, x1, x2⟩ := x
      simp only at p0 p1 p2 q0 q1' q2 y1 y2
      obtain ⟨f1, hf1⟩ : ∃ f1, f1 = x1 + d.size := ⟨_, rfl⟩
      obtain ⟨f2, hf2⟩ : ∃ f2, f2 = x2 + d.size := ⟨_, rfl⟩
      rw [← hf1] at q1'
      rw [← hf2] at q2
      have s1 : IntKind.i64.wrap ((x1 : Int) + (d.size : Int)) = (f1 : Int) := by rw [IntKind.wrap_i64]; omega
      have s2 : IntKind.i64.wrap ((x2 : Int) + (d.size : Int)) = (f2 : Int) := by rw [IntKind.wrap_i64]; omega
      have s3 : IntKind.i64.wrap ((nx : Int) + (k : Int)) = (nk : Int) := by rw [IntKind.wrap_i64]; omega
      have s4 : (nx : Int) + (k : Int) = (nk : Int) := by omega
      have s5 : (0 : Int) ≤ (nk : Int) := by omega
      have s6 : (nk : Int) < (nz : Int) := by have := HNZ.out; omega
      have g0 : (0 : Int) ≤ (k : Int) := by omega
      have g1 : (k : Int) < (ny : Int) := by omega
      clear hf1 hf2 hnk y1 y2 q1
      go_wp2
      go_quiet (fail)
      go_wp2
      clear s1 s2 s3 s4
      go_roundw
      case rel => exact ⟨k + 1, by omega, by go_num, below_drewN hbw _⟩
      case measure => simp [intOf]; omega
    · have hx4 := below_call hx3 hbw
      have rz2 := RdR.pre (k := nx) (rz.below RT.stay hbw) (by have := HNZ.out; omega)
      rw [HXe.out] at rz2
      have rx2 := rx.below RT.stay hbw
      have hc9 : (nx : Int) ≤ (c3 : Int) := by have := HNZ.out; omega
      have hc8 : (0 : Int) ≤ (nx : Int) := by omega
      clear hx hx3
      have hx := hx4
      clear hx4
      go_wp2_with (first
        | (go_at_call 12; go_must (refine (same_true _ _ _ _ _ X _ rz2 rx2).mono ?_; rintro e w5 ⟨rfl, hb5⟩; replace hx := below_call hx hb5; clear rz2 rx2))
        | (go_at_call 9; ((with_reducible refine (known_any m _ ((hx.cell (p := ⟨0, 0, none⟩) h0).trans hm)).mono ?_); rintro e wn ⟨rfl, hbn⟩; replace hx := below_call hx hbn; clear hbn)))
      go_ret
      exact ⟨rfl, hx⟩
end Go.Proofs.Ytpcnfblpoepmbaa
