/- The walk of DiffMissing. -/
import Derived.Test.YtakbpdlfgjfbeaaDoorD22
import Derived.Test.YtakbpdlfgjfbeaaDoorD20
import Derived.Deep.RegionHeld3
namespace Go.Proofs.YtakbpdlfgjfbeaaDoor
open Go.RowKit
set_option linter.unusedSimpArgs false
set_option linter.unusedVariables false

theorem join_cat (L : List ByteArray) : (⟨(Lib.join (L.map (·.data.toList)) ByteArray.empty.data.toList).toArray⟩ : ByteArray) = cat L := by
  apply ba_ext
  rw [cat_data, show ByteArray.empty.data.toList = [] from rfl, join_empty]
theorem join_any (A : Option Addr) (n c : Nat) (L : List ByteArray) (w : World) (h : RdR RS 1 w A n c L) (hn : n ≤ 1000000) (hs : (cat L).size ≤ 140737488355328) :
    Calls Tryd.prog 23 #[.slice A n c, .string ByteArray.empty] w fun e w' => e = .returned (.string (cat L)) ∧ Below w.heap.size w w' := by
  have hl := h.len
  have hcap := h.cap
  rcases Nat.eq_zero_or_pos n with h0 | h0
  · have hL : L = [] := List.eq_nil_of_length_eq_zero (by omega)
    subst h0
    rw [hL]
    exact (Tryd.strings_Join_none A c ByteArray.empty w).mono fun e w' ⟨h1, h2⟩ => ⟨h1, by rw [h2]; exact Below.refl _ _⟩
  · obtain ⟨bx, ox, rfl, hbx, hcx⟩ := RdS.opened h h0
    have e := join_cat L
    have hj : (Lib.join (L.map (·.data.toList)) ByteArray.empty.data.toList).length ≤ 140737488355328 := by
      have h5 := congrArg ByteArray.size e
      have h6 : (⟨(Lib.join (L.map (·.data.toList)) ByteArray.empty.data.toList).toArray⟩ : ByteArray).size = (Lib.join (L.map (·.data.toList)) ByteArray.empty.data.toList).length := List.size_toArray
      omega
    have hc := Tryd.strings_Join bx ox c L ByteArray.empty w (fun j y hy => by
      have hjl : j < L.length := by
        rcases Nat.lt_or_ge j L.length with h | h
        · exact h
        · rw [List.getElem?_eq_none h] at hy; cases hy
      have := hcx j (by omega)
      rw [List.getElem?_eq_getElem hjl] at hy
      injection hy with hy
      rw [this, ← hy, ← getD_lt hjl]) hbx (by omega) (by omega) hj
    rw [e, ← hl] at hc
    exact hc
theorem cat_one (x : ByteArray) : cat [x] = x := by
  apply ba_ext; rw [cat_data]; simp
theorem missing_size (s : ByteArray) {i : Nat} (hi : i < (LN s).length) : (cat ((LN s).take i)).size + (cat ((LN s).drop (i + 1))).size < s.size := by
  have h1 : cat ((LN s).take i ++ ((LN s).getD i BE :: (LN s).drop (i + 1))) = s := by
    rw [getD_lt hi, ← List.drop_eq_getElem_cons hi, List.take_append_drop, cat_LN]
  have h2 := congrArg ByteArray.size h1
  rw [cat_size_append, show (LN s).getD i BE :: (LN s).drop (i + 1) = [(LN s).getD i BE] ++ (LN s).drop (i + 1) from rfl, cat_size_append, cat_one] at h2
  have h3 : 0 < ((LN s).getD i BE).size := by
    rcases LN_shape s hi with ⟨_, h⟩ | ⟨_, _, h⟩ <;> exact h
  omega
theorem and65535 (x : Int) : bits .and .i64 x 65535 = x % 65536 := by
  have e : (BitVec.ofInt 64 (65535 : Int)).toNat = 65535 := by decide
  show IntKind.i64.wrap ((BitVec.ofInt 64 x &&& BitVec.ofInt 64 65535).toNat : Int) = _
  rw [BitVec.toNat_and, e, BitVec.toNat_ofInt, show (65535 : Nat) = 2 ^ 16 - 1 from rfl, Nat.and_two_pow_sub_one_eq_mod, IntKind.wrap_i64]
  omega
/-- a difference does not apply to another text -/
theorem apply_no (t x y : ByteArray) (A : Option Addr) (n c : Nat) (m : Int) (w : World) (hm : w.cell? ⟨0, 0, none⟩ = some (.int .i64 m)) (ht : t.size ≤ 4294967280) (hE : RdR RE 2 w A n c (EI (edits (LN x) (LN y)))) (hn : n ≤ 100000) (hy : y.size ≤ 1000) (hne : t ≠ x) :
    Calls Tryd.prog 25 #[.string t, .slice A n c] w fun e w' => e = .returned (.tuple #[.string ByteArray.empty, .int .i64 9]) ∧ Below w.heap.size w w' := by
  have h := apply_any t A n c _ m w hm ht hE hn (by rw [(edits_src _ _).2, cat_LN]; omega)
  rwa [apV_no (fun h => hne (LN_inj ((applies_iff _ _ _).1 h)))] at h

set_option maxRecDepth 100000 in
set_option maxHeartbeats 8000000 in
theorem missing_law (A : Option Addr) (n c : Nat) (zs : List Int) (v : Int) (m : Int) (w : World) (hr : RdZ w A n c zs) (hm : w.cell? ⟨0, 0, none⟩ = some (.int .i64 m)) :
    Calls Tryd.prog 9 #[.slice A n c, .int .i64 v] w fun e w' => e = .returned (.bool true) ∧ Below w.heap.size w w' := by
  have h00 : 0 < w.heap.size := World.block_lt_of_cell? w _ hm
  have HK := Lib.hid (knownOk m)
  have HM := Lib.hid hm
  have HP := Lib.hid (pair_any A n c zs w hr)
  have HD : Hid (∀ x y : ByteArray, x.size ≤ 150 → y.size ≤ 150 → DiffOk m x y) := Lib.hid fun x y hx hy => diffOk m x y (by omega) (by omega)
  have HL : Hid (∀ x y : ByteArray, x.size ≤ 150 → y.size ≤ 150 → (EI (edits (LN x) (LN y))).length ≤ 7000) := Lib.hid fun x y hx hy => EIe_len x y (by omega) (by omega)
  obtain ⟨j, hj, hj8⟩ : ∃ j : Nat, bits .and .i64 v 65535 = (j : Int) ∧ (j : Int) ≤ 65535 := ⟨(v % 65536).toNat, by rw [and65535]; omega, by omega⟩
  clear hm hr
  go_enter Tryd.func9, Tryd.ntmps9
  go_wp2_with fail
  go_at_call 12
  refine HP.out.mono ?_
  rintro e w1 ⟨x, y, rfl, hx, hy, hb1⟩
  have HSX := Lib.hid hx
  have HSY := Lib.hid hy
  have HD1 := Lib.hid (HD.out x y hx hy)
  have HL1 := Lib.hid (HL.out x y hx hy)
  have r1 : ¬ 9223372036854775807 < x.size + (⟨#[10, 109, 111, 114, 101]⟩ : ByteArray).size := by show ¬ _ < _ + 5; omega
  clear HP HD HL hx hy
  go_wp2_with fail
  go_at_call 14
  refine (HD1.out w1 ((hb1.cell h00).trans HM.out)).mono ?_
  rintro e w2 ⟨A2, n2, c2, rfl, hE2, hb2⟩
  have hn2 : n2 ≤ 100000 := by rw [hE2.len]; have := HL1.out; omega
  have hb02 := below_call hb1 hb2
  have HE2 := Lib.hid hE2
  clear hb1 hb2 hE2
  go_wp2_with fail
  go_at_call 19
  refine (rlines_n x (LN x).length (LN x) rfl rfl (by have := HSX.out; omega) w2).mono ?_
  rintro e w3 ⟨A3, c3, rfl, hx3, hb3⟩
  have hb03 := below_call hb02 hb3
  have HX3 := Lib.hid hx3
  have HAP := Lib.hid (apply_no (x ++ ⟨#[10, 109, 111, 114, 101]⟩) x y A2 n2 c2 m w3 ((hb03.cell h00).trans HM.out) (by rw [ByteArray.size_append]; have := HSX.out; show _ + 5 ≤ _; omega) (RdE.below HE2.out hb3) hn2 (by have := HSY.out; omega) (fun e => by
    have h5 := congrArg ByteArray.size e
    rw [ByteArray.size_append] at h5
    have h6 : (⟨#[10, 109, 111, 114, 101]⟩ : ByteArray).size = 5 := rfl
    omega))
  have HE3 := Lib.hid (RdE.below HE2.out hb3)
  have HMS : Hid (∀ i, i < (LN x).length → (cat ((LN x).take i)).size + (cat ((LN x).drop (i + 1))).size < x.size) := Lib.hid fun i hi => missing_size x hi
  have hln : (LN x).length ≤ 150 := Nat.le_trans (LN_length x) HSX.out
  clear hx3 hb02 hb3 HE2
  obtain ⟨X, hX⟩ : ∃ X, LN x = X := ⟨_, rfl⟩
  rw [hX] at HX3 HMS hln ⊢
  have HXX := Lib.hid hX
  clear hX
  obtain ⟨nx, hnx⟩ : ∃ k, X.length = k := ⟨_, rfl⟩
  rw [hnx] at HX3 HMS hln ⊢
  have HNX := Lib.hid hnx
  clear hnx
  go_wp2_with fail
  go_at_call 25
  refine HAP.out.mono ?_
  rintro e w4 ⟨rfl, hb4⟩
  have hb04 := below_call hb03 hb4
  have HX4 := Lib.hid (HX3.out.below RS.stay hb4)
  have HE4 := Lib.hid (RdE.below HE3.out hb4)
  clear hb4 hb03 HAP HX3 HE3
  by_cases h0 : nx = 0
  · have d0 : ((nx : Int) == 0) = true := by rw [beq_iff_eq]; omega
    clear h0
    go_wp2_with fail
    go_at_call 11
    refine (HK.out w4 ((hb04.cell h00).trans HM.out)).mono ?_
    rintro e w5 ⟨rfl, hb5⟩
    go_wp2_with fail
    go_ret
    exact ⟨rfl, below_call hb04 hb5⟩
  · have d0 : ((nx : Int) == 0) = false := by rw [beq_eq_false_iff_ne]; omega
    have hpos : 0 < nx := by omega
    obtain ⟨i, hi, hilt⟩ : ∃ i : Nat, (j : Int) % (nx : Int) = (i : Int) ∧ i < nx := ⟨j % nx, by omega, Nat.mod_lt _ hpos⟩
    have hi2 : ((j : Int)).tmod (nx : Int) = (i : Int) := by rw [Int.tmod_eq_emod_of_nonneg (by omega)]; exact hi
    obtain ⟨hcut, hRc⟩ := RdS.cutH (P := Tryd.prog) (t := 30) HX4.out Tryd.underlying30 (fun W => by kernel_rfl) (i : Int) i rfl (by omega)
    obtain ⟨Ar, hcut2, hRd⟩ := RdS.cutL (P := Tryd.prog) (t := 30) HX4.out Tryd.underlying30 (fun W => by kernel_rfl) ((i : Int) + 1) (i + 1) (by omega) (by omega)
    have hms := HMS.out i hilt
    have hsx := HSX.out
    have HJ1 : Hid (∀ W, Below w4.heap.size w4 W → Calls Tryd.prog 23 #[.slice A3 i c3, .string ⟨#[]⟩] W fun e w' => e = .returned (.string (cat (X.take i))) ∧ Below W.heap.size W w') := Lib.hid fun W hW => join_any _ _ _ _ W (hRc.below RS.stay hW) (by omega) (by omega)
    have HJ2 : Hid (∀ W, Below w4.heap.size w4 W → Calls Tryd.prog 23 #[.slice Ar (nx - (i + 1)) (c3 - (i + 1)), .string ⟨#[]⟩] W fun e w' => e = .returned (.string (cat (X.drop (i + 1)))) ∧ Below W.heap.size W w') := Lib.hid fun W hW => join_any _ _ _ _ W (hRd.below RS.stay hW) (by omega) (by omega)
    have HAQ : Hid (∀ W, Below w4.heap.size w4 W → Calls Tryd.prog 25 #[.string (cat (X.take i) ++ cat (X.drop (i + 1))), .slice A2 n2 c2] W fun e w' => e = .returned (.tuple #[.string ByteArray.empty, .int .i64 9]) ∧ Below W.heap.size W w') := Lib.hid fun W hW => apply_no _ x y A2 n2 c2 m W (((below_call hb04 hW).cell h00).trans HM.out) (by rw [ByteArray.size_append]; omega) (RdE.below HE4.out hW) hn2 (by have := HSY.out; omega) (fun e => by
      have h5 := congrArg ByteArray.size e
      rw [ByteArray.size_append] at h5
      omega)
    have r2 : ¬ 9223372036854775807 < (cat (X.take i)).size + (cat (X.drop (i + 1))).size := by omega
    clear hRc hRd hms hsx h0 hi
    generalize cat (X.take i) = u1 at *
    generalize cat (X.drop (i + 1)) = u2 at *
    have p1 : (0 : Int) ≤ (i : Int) := by omega
    have p2 : (i : Int) < (nx : Int) := by omega
    have p3 : (nx : Int) ≤ 150 := by omega
    have q1 : IntKind.i64.wrap ((i : Int) + 1) = (i : Int) + 1 := IntWalk.i64_in _ (by omega)
    go_wp2_with fail
    go_region_held3 (fun _ => True)
      (trivial)
      (first
        | (go_at_call 23; ((with_reducible refine (HJ1.out _ ?_).mono ?_); (focus (refine bel_out ?_; (focus (repeat' first | (with_reducible refine bel_refl ?_) | with_reducible assumption | with_reducible refine bel_drew ?_ | with_reducible refine bel_drewN _ ?_ | with_reducible refine bel_alloc _ ?_ | with_reducible refine bel_set ?_ _ ?_ | (with_reducible apply bel_call; with_reducible assumption) | (with_reducible apply bel_owg; with_reducible assumption; (focus omega)) | with_reducible exact Nat.le_refl _ | omega | (simp; done) | (simp; omega))))); rintro e w6 ⟨rfl, hb6⟩))
        | (go_at_call 23; ((with_reducible refine (HJ2.out _ ?_).mono ?_); (focus (refine bel_out ?_; (focus (repeat' first | (with_reducible refine bel_refl ?_) | with_reducible assumption | with_reducible refine bel_drew ?_ | with_reducible refine bel_drewN _ ?_ | with_reducible refine bel_alloc _ ?_ | with_reducible refine bel_set ?_ _ ?_ | (with_reducible apply bel_call; with_reducible assumption) | (with_reducible apply bel_owg; with_reducible assumption; (focus omega)) | with_reducible exact Nat.le_refl _ | omega | (simp; done) | (simp; omega))))); rintro e w7 ⟨rfl, hb7⟩))
        | (go_at_call 25; ((with_reducible refine (HAQ.out _ ?_).mono ?_); (focus (refine bel_out ?_; (focus (repeat' first | (with_reducible refine bel_refl ?_) | with_reducible assumption | with_reducible refine bel_drew ?_ | with_reducible refine bel_drewN _ ?_ | with_reducible refine bel_alloc _ ?_ | with_reducible refine bel_set ?_ _ ?_ | (with_reducible apply bel_call; with_reducible assumption) | (with_reducible apply bel_owg; with_reducible assumption; (focus omega)) | with_reducible exact Nat.le_refl _ | omega | (simp; done) | (simp; omega))))); rintro e w8 ⟨rfl, hb8⟩)))
    all_goals
      have hb08 : Below w.heap.size w w8 := by (refine bel_out ?_; (focus (repeat' first | (with_reducible refine bel_refl ?_) | with_reducible assumption | with_reducible refine bel_drew ?_ | with_reducible refine bel_drewN _ ?_ | with_reducible refine bel_alloc _ ?_ | with_reducible refine bel_set ?_ _ ?_ | (with_reducible apply bel_call; with_reducible assumption) | (with_reducible apply bel_owg; with_reducible assumption; (focus omega)) | with_reducible exact Nat.le_refl _ | omega | (simp; done) | (simp; omega))))
      go_wp2_with fail
      go_at_call 11
      refine (HK.out w8 ((hb08.cell h00).trans HM.out)).mono ?_
      rintro e w9 ⟨rfl, hb9⟩
      go_wp2_with fail
      go_ret
      exact ⟨rfl, below_call hb08 hb9⟩
end Go.Proofs.YtakbpdlfgjfbeaaDoor
