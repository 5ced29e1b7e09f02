/- The readers: their state; the walk of the readers' number. -/
import Derived.Test.YtbeijpajodgpeaaDoorC2
import Derived.Test.YtbeijpajodgpeaaDoorOwn
import Derived.Deep.CutBlock
import Derived.Shelf.Bytes.SlSmallAll
import Derived.Laws.IdiomStrings
import Derived.Test.YtbeijpajodgpeaaDoorSrc
import Derived.Test.YtbeijpajodgpeaaDoorCR
namespace Go.Proofs.YtbeijpajodgpeaaDoor
open Go.RowKit
set_option linter.unusedSimpArgs false
set_option linter.unusedVariables false

theorem size_u8 : ∀ W : World, (sizeOf (Tryd.prog.elem 33)).run Tryd.prog W = .ok 1 W := fun W => by kernel_rfl
theorem elem_u8 : Tryd.prog.underlying 33 = some (.slice (Tryd.prog.elem 33)) := by kernel_rfl
/-- a reader at block g: whether it is bad, and what is left (bytes that stood before the base) -/
def Raw (t : Nat) (w0 W : World) (g M : Nat) (bad : Bool) (l : List UInt8) : Prop := Below w0.heap.size w0 W ∧ w0.heap.size ≤ g ∧ ∃ A n c, W.heap[g]? = some (.cells #[.slice A n c, .bool bad] t (0, 0)) ∧ RdB w0 A n c l ∧ n ≤ M
/-- the same, told by what can be read: none is bad -/
def Sta (t : Nat) (w0 W : World) (g M : Nat) (s : Option (List UInt8)) : Prop := ∃ bad l, Raw t w0 W g M bad l ∧ (∀ r, s = some r → bad = false ∧ l = r) ∧ (s = none → bad = true)
theorem Raw.call {t : Nat} {w0 W W' : World} {g M : Nat} {bad : Bool} {l : List UInt8} (h : Raw t w0 W g M bad l) (hb : Below W.heap.size W W') : Raw t w0 W' g M bad l := by
  obtain ⟨h1, h2, A, n, c, h3, h4, h5⟩ := h
  exact ⟨below_call h1 hb, h2, A, n, c, heap_call hb h3, h4, h5⟩
theorem Sta.call {t : Nat} {w0 W W' : World} {g M : Nat} {s : Option (List UInt8)} (h : Sta t w0 W g M s) (hb : Below W.heap.size W W') : Sta t w0 W' g M s := by
  obtain ⟨bad, l, h1, h2, h3⟩ := h
  exact ⟨bad, l, h1.call hb, h2, h3⟩
theorem Raw.set {t : Nat} {w0 W : World} {g M : Nat} {bad : Bool} {l : List UInt8} (h : Raw t w0 W g M bad l) {q i : Nat} (hq : g ≠ q) (hq0 : w0.heap.size ≤ q) (u : Value) : Raw t w0 (W.setCell ⟨q, i, none⟩ u) g M bad l := by
  obtain ⟨h1, h2, A, n, c, h3, h4, h5⟩ := h
  exact ⟨h1.setCell hq0 _, h2, A, n, c, (heap_set_far _ _ _ _ _ hq).trans h3, h4, h5⟩
theorem Sta.set {t : Nat} {w0 W : World} {g M : Nat} {s : Option (List UInt8)} (h : Sta t w0 W g M s) {q i : Nat} (hq : g ≠ q) (hq0 : w0.heap.size ≤ q) (u : Value) : Sta t w0 (W.setCell ⟨q, i, none⟩ u) g M s := by
  obtain ⟨bad, l, h1, h2, h3⟩ := h
  exact ⟨bad, l, h1.set hq hq0 u, h2, h3⟩
theorem and127 : ∀ m : Fin 256, bits .and .u8 ((m.val : Nat) : Int) 127 = ((m.val % 128 : Nat) : Int) := by decide +kernel
theorem or_i64 (a b : Nat) (ha : a < 9223372036854775808) (hb : b < 9223372036854775808) (hab : a ||| b < 9223372036854775808) : bits .or .i64 (a : Int) (b : Int) = ((a ||| b : Nat) : Int) := by
  have e : ∀ x : Nat, x < 9223372036854775808 → (BitVec.ofInt 64 (x : Int)).toNat = x := by
    intro x hx
    rw [BitVec.ofInt_natCast, BitVec.toNat_ofNat]
    exact Nat.mod_eq_of_lt (by omega)
  show IntKind.i64.wrap ((BitVec.ofInt 64 (a : Int) ||| BitVec.ofInt 64 (b : Int)).toNat : Int) = _
  rw [BitVec.toNat_or, e a ha, e b hb, IntKind.wrap_i64]
  omega
theorem acc_num {K v y : Nat} (hK : K ≤ 268435456) (hv : v < K) (hy : y < 128) (h7 : v ||| K * y = v + K * y) : bits .or .i64 (v : Int) (wrap64 (wrap64 ((y : Nat) : Int) * (K : Int))) = ((v + K * y : Nat) : Int) ∧ v + K * y < 34359738368 := by
  have h2 : wrap64 ((y : Nat) : Int) = (y : Int) := by unfold wrap64; omega
  have h5 : K * y ≤ K * 127 := Nat.mul_le_mul_left _ (by omega)
  rw [h2, ← Int.natCast_mul, Nat.mul_comm y]
  generalize K * y = q at *
  have h6 : wrap64 ((q : Nat) : Int) = (q : Int) := by unfold wrap64; omega
  rw [h6, or_i64 v q (by omega) (by omega) (by rw [h7]; omega), h7]
  exact ⟨rfl, by omega⟩
theorem pow128 {k : Nat} (hk : k < 5) : 128 ^ k ≤ 268435456 := by
  rcases k with _ | _ | _ | _ | _ | k <;> first | omega | decide
theorem acc_val {k v : Nat} (x : UInt8) (hk : k < 5) (hv : v < 128 ^ k) : bits .or .i64 (v : Int) (wrap64 (wrap64 (bits .and .u8 (x.toNat : Int) 127) * 2 ^ (7 * k))) = ((v + 128 ^ k * (x.toNat % 128) : Nat) : Int) ∧ v + 128 ^ k * (x.toNat % 128) < 34359738368 ∧ v + 128 ^ k * (x.toNat % 128) < 128 ^ (k + 1) := by
  have hx := x.toNat_lt
  have h1 : bits .and .u8 (x.toNat : Int) 127 = ((x.toNat % 128 : Nat) : Int) := and127 ⟨x.toNat, hx⟩
  rw [h1]
  have hy : x.toNat % 128 < 128 := Nat.mod_lt _ (by decide)
  generalize x.toNat % 128 = y at *
  have h3 : (2 : Int) ^ (7 * k) = ((128 ^ k : Nat) : Int) := by rw [Int.pow_mul, Int.natCast_pow]; rfl
  have h9 : (128 : Nat) ^ k = 2 ^ (7 * k) := by rw [Nat.pow_mul]
  have h7 : v ||| 128 ^ k * y = v + 128 ^ k * y := by
    rw [h9] at hv ⊢
    rw [Nat.or_comm, ← Nat.two_pow_add_eq_or_of_lt hv y, Nat.add_comm]
  have h8 : 128 ^ (k + 1) = 128 ^ k * 128 := Nat.pow_succ _ _
  have h4 := pow128 hk
  rw [h3, h8]
  clear h3 h9 h8 h1
  obtain ⟨q1, q2⟩ := acc_num h4 hv hy h7
  refine ⟨q1, q2, ?_⟩
  have h5 : 128 ^ k * y ≤ 128 ^ k * 127 := Nat.mul_le_mul_left _ (by omega)
  generalize 128 ^ k = K at *
  generalize K * y = q at *
  omega
theorem pn_step {f k v : Nat} {x : UInt8} {r : List UInt8} (hx : ¬ x.toNat < 128) : (pn (f + 1) (x :: r)).map (fun p => (v + 128 ^ k * p.1, p.2)) = (pn f r).map fun p => (v + 128 ^ k * (x.toNat % 128) + 128 ^ (k + 1) * p.1, p.2) := by
  simp only [pn, if_neg hx, Option.map_map]
  congr 1
  funext p
  simp only [Function.comp, Prod.mk.injEq, and_true]
  rw [Nat.mul_add, Nat.pow_succ, Nat.add_assoc, Nat.mul_assoc]
theorem Raw.fin {t : Nat} {w0 W : World} {g M : Nat} {bad : Bool} {l : List UInt8} (h : Raw t w0 W g M bad l) : Raw t w0 (W.setCell ⟨g, 1, none⟩ (.bool true)) g M true l := by
  obtain ⟨h1, h2, A, n, c, h3, h4, h5⟩ := h
  exact ⟨h1.setCell h2 _, h2, A, n, c, heap_set_near _ _ _ _ _ _ h3, h4, h5⟩
theorem Raw.step {t : Nat} {w0 W : World} {g M n c n' c' : Nat} {bad : Bool} {A A' : Option Addr} {l : List UInt8} (h1 : Below w0.heap.size w0 W) (h2 : w0.heap.size ≤ g) (h3 : W.heap[g]? = some (.cells #[.slice A n c, .bool bad] t (0, 0))) (h4 : RdB w0 A' n' c' l) (h5 : n' ≤ M) : Raw t w0 (W.setCell ⟨g, 0, none⟩ (.slice A' n' c')) g M bad l :=
  ⟨h1.setCell h2 _, h2, A', n', c', heap_set_near _ _ _ _ _ _ h3, h4, h5⟩
theorem grownR_set (W : World) (g i : Nat) (u : Value) : W.grownBy (W.setCell ⟨g, i, none⟩ u) (some g) := ⟨rfl, rfl, rfl, by rw [size_set]; exact Nat.le_refl _, fun k hk hne => heap_set_far _ _ _ _ _ (fun e => hne (by rw [e]))⟩
/-- what a number's reading leaves -/
def RNum (t : Nat) (w0 W : World) (g M : Nat) (bad : Bool) (l : List UInt8) (e : Ending) (W' : World) : Prop := ∃ (v : Nat) (l' : List UInt8), e = .returned (.int .i64 v) ∧ v < 34359738368 ∧ Raw t w0 W' g M (bad || (pNum l).isNone) l' ∧ (∀ p, pNum l = some p → v = p.1 ∧ l' = p.2) ∧ W.grownBy W' (some g)

set_option maxRecDepth 100000 in
set_option maxHeartbeats 8000000 in
theorem rdnum_any (w0 : World) (g M : Nat) (bad : Bool) (l : List UInt8) (W : World) (h : Raw 83 w0 W g M bad l) :
    Calls Tryd.prog 42 #[.pointer (some ⟨g, 0, none⟩)] W (RNum 83 w0 W g M bad l) := by
  go_enter Tryd.func42, Tryd.ntmps42
  go_wp2_with fail
  go_loopw [3, 4] (fun a i wr => ∃ (k v : Nat) (r : List UInt8), k ≤ 5 ∧ a = .int .i64 v ∧ i = .int .i64 k ∧ v < 128 ^ k ∧ Raw 83 w0 wr g M bad r ∧ W.grownBy wr (some g) ∧ Hid (pNum l = (pn (5 - k) r).map fun p => (v + 128 ^ k * p.1, p.2))) (fun _ i _ => 5 - (intOf i).toNat)
  case atStart => exact ⟨0, 0, l, by omega, rfl, rfl, by omega, h, World.grownBy.refl _ _, Lib.hid (by unfold pNum; cases hh : pn 5 l <;> simp [hh])⟩
  case round =>
    obtain ⟨k, v, r, hk, rfl, rfl, hv, hR, hg, HP⟩ := hrel
    obtain ⟨hb, hgb, A, n, c, kb, hrd, hnM⟩ := hR
    have kc := Blk.cell kb
    have kf := Blk.frozen kb
    have hmax : n ≤ maxLen := Nat.le_trans hrd.cap hrd.max
    unfold maxLen at hmax
    clear h
    by_cases h5 : k < 5
    · by_cases h0 : n = 0
      · subst h0
        have hr : r = [] := List.length_eq_zero_iff.1 hrd.len.symm
        have z1 : (k : Int) < 5 := by omega
        have HN : Hid (pNum l = none) := Lib.hid (by rw [HP.out, hr, show 5 - k = (4 - k) + 1 by omega]; rfl)
        have HR := Lib.hid (Raw.fin ⟨hb, hgb, A, 0, c, kb, hrd, hnM⟩)
        clear hr
        go_wp2_with fail
        go_ret
        exact ⟨0, r, rfl, by omega, by rw [HN.out, Option.isNone_none, Bool.or_true]; exact HR.out, (fun p h => by rw [HN.out] at h; cases h), hg.trans (grownR_set _ _ _ _)⟩
      · cases r with
        | nil => exact absurd hrd.len (by simpa using h0)
        | cons x r =>
          obtain ⟨b, off, rfl, hbb, hcells⟩ := hrd.opened (by omega)
          have hcx : wr.cell? ⟨b, off, none⟩ = some (.int .u8 (x.toNat : Int)) := (hb.cell (p := ⟨b, off, none⟩) hbb).trans (hcells 0 (by omega))
          have z1 : (k : Int) < 5 := by omega
          have z2 : ((n : Int) == 0) = false := by simpa using h0
          have z3 : (0 : Int) < (n : Int) := by omega
          obtain ⟨A', hrun, hrd'⟩ := RdB.cutL (P := Tryd.prog) (t := 33) hrd elem_u8 size_u8 1 1 rfl (by omega)
          obtain ⟨v1, v2, v3⟩ := acc_val x h5 hv
          have HV := Lib.hid v1
          clear hcells v1
          by_cases hx : x.toNat < 128
          · have HN : Hid (pNum l = some (v + 128 ^ k * (x.toNat % 128), r)) := Lib.hid (by
              rw [HP.out, show 5 - k = (4 - k) + 1 by omega]
              simp only [pn, if_pos hx, Option.map_some]
              rw [Nat.mod_eq_of_lt hx])
            have HR := Lib.hid (Raw.step (t := 83) hb hgb kb hrd' (by omega : n - 1 ≤ M))
            have q1 : (x.toNat : Int) < 128 := by omega
            clear HP
            go_wp2_with fail
            go_ret
            exact ⟨v + 128 ^ k * (x.toNat % 128), r, by rw [← HV.out]; rfl, v2, by rw [HN.out, Option.isNone_some, Bool.or_false]; exact HR.out, (fun p h => by rw [HN.out] at h; injection h with h; rw [← h]; exact ⟨rfl, rfl⟩), hg.trans (grownR_set _ _ _ _)⟩
          · have HN : Hid (pNum l = (pn (5 - (k + 1)) r).map fun p => (v + 128 ^ k * (x.toNat % 128) + 128 ^ (k + 1) * p.1, p.2)) := Lib.hid (by rw [HP.out, show 5 - k = (5 - (k + 1)) + 1 by omega]; exact pn_step hx)
            have HR := Lib.hid (Raw.step (t := 83) hb hgb kb hrd' (by omega : n - 1 ≤ M))
            have q1 : ¬ (x.toNat : Int) < 128 := by omega
            clear HP
            go_wp2_with fail
            go_roundw
            case rel => exact ⟨k + 1, _, r, by omega, by rw [HV.out], by go_num, v3, HR.out, hg.trans (grownR_set _ _ _ _), HN⟩
            case measure => simp [intOf]; omega
    · obtain rfl : k = 5 := by omega
      have HN : Hid (pNum l = none) := Lib.hid (by rw [HP.out]; rfl)
      have HR := Lib.hid (Raw.fin ⟨hb, hgb, A, n, c, kb, hrd, hnM⟩)
      have z1 : ¬ (5 : Int) < 5 := by omega
      go_wp2_with fail
      go_ret
      exact ⟨0, r, rfl, by omega, by rw [HN.out, Option.isNone_none, Bool.or_true]; exact HR.out, (fun p h => by rw [HN.out] at h; cases h), hg.trans (grownR_set _ _ _ _)⟩
end Go.Proofs.YtbeijpajodgpeaaDoor
/- The walk of the reference's number; text, both. -/
namespace Go.Proofs.YtbeijpajodgpeaaDoor
open Go.RowKit
set_option linter.unusedSimpArgs false
set_option linter.unusedVariables false

theorem Raw.fin2 {t : Nat} {w0 W : World} {g M : Nat} {bad : Bool} {l : List UInt8} (h : Raw t w0 W g M bad l) : Raw t w0 ((W.setCell ⟨g, 1, none⟩ (.bool true)).setCell ⟨g, 0, none⟩ (.slice none 0 0)) g M true [] := by
  obtain ⟨h1, h2, A, n, c, h3, h4, h5⟩ := h
  have h6 : (W.setCell ⟨g, 1, none⟩ (.bool true)).heap[g]? = some (.cells #[.slice A n c, .bool true] t (0, 0)) := heap_set_near _ _ _ _ _ _ h3
  exact ⟨(h1.setCell h2 _).setCell h2 _, h2, none, 0, 0, heap_set_near _ _ _ _ _ _ h6, RdB.nil _, Nat.zero_le _⟩
theorem drop_cons {l : List UInt8} {k : Nat} (h : k < l.length) : l.drop k = l.getD k 0 :: l.drop (k + 1) := by
  rw [List.drop_eq_getElem_cons h]
  simp [List.getD, List.getElem?_eq_getElem h]
theorem acc_ref {k v : Nat} (x : UInt8) (hk : k < 5) (hv : v < 128 ^ k) : ∃ q : Nat, (x.toNat : Int) % 128 * ((128 ^ k : Nat) : Int) = (q : Int) ∧ v + q = v + 128 ^ k * (x.toNat % 128) ∧ q < 34359738368 ∧ v + q < 34359738368 ∧ v + q < 128 ^ (k + 1) := by
  have h4 := pow128 hk
  have hy : x.toNat % 128 < 128 := Nat.mod_lt _ (by decide)
  have e : (x.toNat : Int) % 128 = ((x.toNat % 128 : Nat) : Int) := by omega
  rw [e]
  have h8 : 128 ^ (k + 1) = 128 ^ k * 128 := Nat.pow_succ _ _
  rw [h8]
  generalize x.toNat % 128 = y at *
  have h5 : 128 ^ k * y ≤ 128 ^ k * 127 := Nat.mul_le_mul_left _ (by omega)
  generalize 128 ^ k = K at *
  refine ⟨K * y, by rw [← Int.natCast_mul, Nat.mul_comm], rfl, ?_, ?_, ?_⟩ <;> (generalize K * y = q at *; omega)

set_option maxRecDepth 100000 in
set_option maxHeartbeats 8000000 in
theorem rrdnum_any (w0 : World) (g M : Nat) (bad : Bool) (l : List UInt8) (W : World) (h : Raw 98 w0 W g M bad l) :
    Calls Tryd.prog 59 #[.pointer (some ⟨g, 0, none⟩)] W (RNum 98 w0 W g M bad l) := by
  have HRaw := Lib.hid h
  obtain ⟨hb, hgb, A, n, c, kb, hrd, hnM⟩ := h
  have kc := Blk.cell kb
  have kf := Blk.frozen kb
  have hmax : n ≤ maxLen := Nat.le_trans hrd.cap hrd.max
  unfold maxLen at hmax
  have HL := Lib.hid hrd.len
  have HRD := Lib.hid hrd
  clear hrd
  go_enter Tryd.func59, Tryd.ntmps59
  go_wp2_with fail
  go_loop [3, 4, 5] (fun a q i => ∃ (k v K : Nat), k ≤ 5 ∧ k ≤ n ∧ a = .int .i64 v ∧ q = .int .i64 K ∧ i = .int .i64 k ∧ v < 128 ^ k ∧ Hid (K = 128 ^ k) ∧ Hid (pNum l = (pn (5 - k) (l.drop k)).map fun p => (v + 128 ^ k * p.1, p.2))) (fun _ _ i => 5 - (intOf i).toNat)
  case atStart => exact ⟨0, 0, 1, by omega, Nat.zero_le _, rfl, rfl, rfl, by omega, Lib.hid rfl, Lib.hid (by unfold pNum; cases hh : pn 5 l <;> simp [hh])⟩
  case round =>
    obtain ⟨k, v, K, hk, hkn, rfl, rfl, rfl, hv, HK, HP⟩ := hrel
    by_cases h5 : k < 5 ∧ k < n
    · obtain ⟨h5, hn5⟩ := h5
      obtain ⟨b, off, rfl, hbb, hcells⟩ := HRD.out.opened (by omega)
      have hcx : W.cell? ⟨b, off + k, none⟩ = some (.int .u8 ((l.getD k 0).toNat : Int)) := (hb.cell (p := ⟨b, off + k, none⟩) hbb).trans (hcells k hn5)
      obtain ⟨A', hrun, hrd'⟩ := RdB.cutL (P := Tryd.prog) (t := 33) HRD.out elem_u8 size_u8 ((k : Int) + 1) (k + 1) (by omega) (by omega)
      have HD := Lib.hid (drop_cons (l := l) (k := k) (by rw [← HL.out]; exact hn5))
      obtain ⟨q, hq1, hq2, hq3, hq4, hq5⟩ := acc_ref (l.getD k 0) h5 hv
      rw [← HK.out] at hq1
      have HQ2 := Lib.hid hq2
      have hK := pow128 h5
      rw [← HK.out] at hK
      generalize l.getD k 0 = x at *
      have hx8 := x.toNat_lt
      have z0 : (0 : Int) ≤ (k : Int) := by omega
      have z1 : (k : Int) < 5 := by omega
      have z2 : (k : Int) < (n : Int) := by omega
      have z5 : (q : Int) < 34359738368 := by omega
      have z6 : (v : Int) + (q : Int) < 34359738368 := by omega
      have HQ5 := Lib.hid hq5
      clear hcells hq2 hq5 hv
      by_cases hx : x.toNat < 128
      · have HN : Hid (pNum l = some (v + q, l.drop (k + 1))) := Lib.hid (by
          rw [HP.out, HD.out, show 5 - k = (4 - k) + 1 by omega]
          simp only [pn, if_pos hx, Option.map_some]
          rw [HQ2.out, Nat.mod_eq_of_lt hx])
        have HR := Lib.hid (Raw.step (t := 98) hb hgb kb hrd' (by omega : n - (k + 1) ≤ M))
        have q1 : (x.toNat : Int) < 128 := by omega
        clear HP
        go_wp2_with fail
        go_ret
        exact ⟨v + q, l.drop (k + 1), by go_num, hq4, by rw [HN.out, Option.isNone_some, Bool.or_false]; exact HR.out, (fun p h => by rw [HN.out] at h; injection h with h; rw [← h]; exact ⟨rfl, rfl⟩), grownR_set _ _ _ _⟩
      · have HN : Hid (pNum l = (pn (5 - (k + 1)) (l.drop (k + 1))).map fun p => (v + q + 128 ^ (k + 1) * p.1, p.2)) := Lib.hid (by rw [HP.out, HD.out, show 5 - k = (5 - (k + 1)) + 1 by omega, HQ2.out]; exact pn_step hx)
        have q1 : ¬ (x.toNat : Int) < 128 := by omega
        clear HP
        go_wp2_with fail
        go_round
        case rel => exact ⟨k + 1, v + q, K * 128, by omega, by omega, by go_num, by go_num, by go_num, HQ5.out, Lib.hid (by rw [HK.out]; exact (Nat.pow_succ _ _).symm), HN⟩
        case measure => simp [intOf]; omega
    · have HN : Hid (pNum l = none) := Lib.hid (by
        rw [HP.out]
        by_cases h6 : k < 5
        · have h7 : l.drop k = [] := List.drop_of_length_le (by rw [← HL.out]; omega)
          rw [h7, show 5 - k = (4 - k) + 1 by omega]; rfl
        · rw [show 5 - k = 0 by omega]; rfl)
      have HR := Lib.hid (Raw.fin2 HRaw.out)
      have HG : Hid (W.grownBy ((W.setCell ⟨g, 1, none⟩ (.bool true)).setCell ⟨g, 0, none⟩ (.slice none 0 0)) (some g)) := Lib.hid ((grownR_set W g 1 (.bool true)).trans (grownR_set _ g 0 (.slice none 0 0)))
      clear HP hv
      by_cases h6 : k < n
      · have z1 : ¬ (k : Int) < 5 := by omega
        have z2 : (k : Int) < (n : Int) := by omega
        clear h5
        go_wp2_with fail
        go_ret
        exact ⟨0, [], rfl, by omega, by rw [HN.out, Option.isNone_none, Bool.or_true]; exact HR.out, (fun p h => by rw [HN.out] at h; cases h), HG.out⟩
      · have z2 : ¬ (k : Int) < (n : Int) := by omega
        clear h5
        go_wp2_with fail
        go_ret
        exact ⟨0, [], rfl, by omega, by rw [HN.out, Option.isNone_none, Bool.or_true]; exact HR.out, (fun p h => by rw [HN.out] at h; cases h), HG.out⟩
end Go.Proofs.YtbeijpajodgpeaaDoor
/- The walks of the readers' text, both. Printed by gen_c20.py -/
namespace Go.Proofs.YtbeijpajodgpeaaDoor
open Go.RowKit
set_option linter.unusedSimpArgs false
set_option linter.unusedVariables false

theorem conv_rd {W : World} {A : Option Addr} {n c : Nat} {l : List UInt8} (h : RdB W A n c l) : (convert 33 9 (.slice A n c)).run Tryd.prog W = .ok (.string ⟨l.toArray⟩) W := by
  have hl := h.len
  rcases Nat.eq_zero_or_pos n with h0 | h0
  · subst h0
    have e : l = [] := List.length_eq_zero_iff.1 hl.symm
    subst e
    exact run_convert_bytes_zero W 33 5 Tryd.underlying33 Tryd.underlying5 A c 9 Tryd.underlying9
  · obtain ⟨ad, e, hb, hc⟩ := h.reads.2 h0
    subst e hl
    refine run_convert_bytes_back W _ _ 5 ad c l Tryd.underlying33 Tryd.underlying5 Tryd.underlying9 (fun j hj => hc j _ ?_)
    simp [bs, List.getElem?_eq_getElem hj]
theorem RdB.cutH {w : World} {A : Option Addr} {n c : Nat} {l : List UInt8} (h : RdB w A n c l) (HI : Int) (ln : Nat) (hhi : HI = (ln : Int)) (h2 : ln ≤ n) :
    (∀ W : World, (Instr.slice 33 (.slice A n c) none (some (.int .i64 HI)) none).run Tryd.prog W = .ok (.slice A ln c) W) ∧ RdB w A ln c (l.take ln) := by
  subst hhi
  have hcap := h.cap
  have hln := h.len
  refine ⟨fun W => ?_, ?_⟩
  · rw [run_slice_h W 33 A n c elem_u8 .i64 ln (by omega) (by omega)]
    have e : (if c = 0 then A else A.map (·.add 0)) = A := by
      split
      · rfl
      · cases A <;> simp [Addr.add]
    simp [size_u8, Result.andThen, sliced, Addr.add]
  · refine ⟨by rw [List.length_take]; omega, by omega, h.max, by rw [length_bs, List.length_take]; omega, fun h0 => ?_⟩
    obtain ⟨ad, e, hb, hc⟩ := h.reads.2 (by omega)
    refine ⟨ad, e, hb, fun j u hu => hc j u ?_⟩
    rw [bs_take, List.getElem?_take] at hu
    split at hu
    · exact hu
    · cases hu
theorem Raw.bad1 {t : Nat} {w0 W : World} {g M : Nat} {bad : Bool} {l : List UInt8} (h : Raw t w0 W g M bad l) : Raw t w0 (W.setCell ⟨g, 1, none⟩ (.bool true)) g M true l := h.fin
/-- what a text's reading leaves -/
def RTxt (t : Nat) (w0 W : World) (g M : Nat) (bad : Bool) (l : List UInt8) (e : Ending) (W' : World) : Prop := ∃ (s : ByteArray) (bad' : Bool) (l' : List UInt8), e = .returned (.string s) ∧ s.size ≤ M ∧ Raw t w0 W' g M bad' l' ∧ (∀ p, pTxt l = some p → s = p.1 ∧ l' = p.2 ∧ bad' = bad) ∧ (pTxt l = none → bad' = true) ∧ (bad = true → bad' = true) ∧ W.grownBy W' (some g)
theorem pTxt_no {l : List UInt8} {v : Nat} {l1 : List UInt8} (hp : ∀ p, pNum l = some p → v = p.1 ∧ l1 = p.2) (h : l1.length < v) : pTxt l = none := by
  unfold pTxt
  cases hh : pNum l with
  | none => rfl
  | some p =>
    obtain ⟨h1, h2⟩ := hp p hh
    simp only [Option.bind_some]
    rw [if_neg (by rw [← h1, ← h2]; omega)]
theorem pTxt_yes {l : List UInt8} {v : Nat} {l1 : List UInt8} (hp : ∀ p, pNum l = some p → v = p.1 ∧ l1 = p.2) (h : ¬ l1.length < v) : (∀ q, pTxt l = some q → (⟨(l1.take v).toArray⟩ : ByteArray) = q.1 ∧ l1.drop v = q.2 ∧ (pNum l).isNone = false) ∧ (pTxt l = none → (pNum l).isNone = true) := by
  unfold pTxt
  cases hh : pNum l with
  | none => exact ⟨fun q hq => (by cases hq), fun _ => rfl⟩
  | some p =>
    obtain ⟨h1, h2⟩ := hp p hh
    simp only [Option.bind_some]
    rw [if_pos (by rw [← h1, ← h2]; omega)]
    refine ⟨fun q hq => ?_, fun hq => (by cases hq)⟩
    injection hq with hq
    rw [← hq, h1, h2]
    exact ⟨rfl, rfl, rfl⟩
set_option maxRecDepth 100000 in
set_option maxHeartbeats 8000000 in
theorem rdtext_any (w0 : World) (g M : Nat) (bad : Bool) (l : List UInt8) (W : World) (h : Raw 83 w0 W g M bad l) :
    Calls Tryd.prog 61 #[.pointer (some ⟨g, 0, none⟩)] W (RTxt 83 w0 W g M bad l) := by
  have HN := Lib.hid (rdnum_any w0 g M bad l W h)
  clear h
  go_enter Tryd.func61, Tryd.ntmps61
  go_wp2_with fail
  go_at_call 42
  refine HN.out.mono ?_
  rintro e w1 ⟨v, l1, rfl, hv, hR1, hp1, hg1⟩
  have HP := Lib.hid hp1
  have HR := Lib.hid hR1
  obtain ⟨hb, hgb, A, n, c, kb, hrd, hnM⟩ := hR1
  have kc := Blk.cell kb
  have kf := Blk.frozen kb
  have hmax : n ≤ maxLen := Nat.le_trans hrd.cap hrd.max
  unfold maxLen at hmax
  have HLN := Lib.hid hrd.len
  obtain ⟨b1, hb1⟩ : ∃ b1, b1 = (bad || (pNum l).isNone) := ⟨_, rfl⟩
  rw [← hb1] at HR kb kc
  have HB1 := Lib.hid hb1
  clear hp1 HN hb1
  by_cases hlt : n < v
  · have HF := Lib.hid (pTxt_no HP.out (by rw [← HLN.out]; exact hlt))
    have z1 : (n : Int) < (v : Int) := by omega
    have HRF := Lib.hid (Raw.fin HR.out)
    have HG : Hid (W.grownBy (w1.setCell ⟨g, 1, none⟩ (.bool true)) (some g)) := Lib.hid (hg1.trans (grownR_set w1 g 1 (.bool true)))
    go_wp2_with fail
    go_ret
    exact ⟨⟨#[]⟩, true, l1, rfl, Nat.zero_le _, HRF.out, (fun p h => by rw [HF.out] at h; cases h), (fun _ => rfl), (fun _ => rfl), HG.out⟩
  · have HF := Lib.hid (pTxt_yes HP.out (by rw [← HLN.out]; exact hlt))
    obtain ⟨hr1, hd1⟩ := RdB.cutH hrd (v : Int) v rfl (by omega)
    obtain ⟨A2, hr2, hd2⟩ := RdB.cutL (P := Tryd.prog) (t := 33) hrd elem_u8 size_u8 (v : Int) v rfl (by omega)
    have hcv := conv_rd (RdB.below hd1 hb)
    have z1 : ¬ (n : Int) < (v : Int) := by omega
    have HRS := Lib.hid (Raw.step (t := 83) hb hgb kb hd2 (by omega : n - v ≤ M))
    have HS : Hid ((l1.take v).length ≤ M) := Lib.hid (by rw [List.length_take]; omega)
    clear hd1 hd2 hrd
    go_wp2_with fail
    go_ret
    refine ⟨⟨(l1.take v).toArray⟩, b1, l1.drop v, rfl, ?_, HRS.out, fun p h => ?_, fun h => ?_, fun h => ?_, hg1.trans (grownR_set _ _ _ _)⟩
    · have : (⟨(l1.take v).toArray⟩ : ByteArray).size = (l1.take v).length := by simp [ByteArray.size]
      rw [this]; exact HS.out
    · obtain ⟨q1, q2, q3⟩ := HF.out.1 p h
      exact ⟨q1, q2, by rw [HB1.out, q3, Bool.or_false]⟩
    · rw [HB1.out, HF.out.2 h, Bool.or_true]
    · rw [HB1.out, h, Bool.true_or]
set_option maxRecDepth 100000 in
set_option maxHeartbeats 8000000 in
theorem rrdtext_any (w0 : World) (g M : Nat) (bad : Bool) (l : List UInt8) (W : World) (h : Raw 98 w0 W g M bad l) :
    Calls Tryd.prog 74 #[.pointer (some ⟨g, 0, none⟩)] W (RTxt 98 w0 W g M bad l) := by
  have HN := Lib.hid (rrdnum_any w0 g M bad l W h)
  clear h
  go_enter Tryd.func74, Tryd.ntmps74
  go_wp2_with fail
  go_at_call 59
  refine HN.out.mono ?_
  rintro e w1 ⟨v, l1, rfl, hv, hR1, hp1, hg1⟩
  have HP := Lib.hid hp1
  have HR := Lib.hid hR1
  obtain ⟨hb, hgb, A, n, c, kb, hrd, hnM⟩ := hR1
  have kc := Blk.cell kb
  have kf := Blk.frozen kb
  have hmax : n ≤ maxLen := Nat.le_trans hrd.cap hrd.max
  unfold maxLen at hmax
  have HLN := Lib.hid hrd.len
  obtain ⟨b1, hb1⟩ : ∃ b1, b1 = (bad || (pNum l).isNone) := ⟨_, rfl⟩
  rw [← hb1] at HR kb kc
  have HB1 := Lib.hid hb1
  clear hp1 HN hb1
  by_cases hlt : n < v
  · have HF := Lib.hid (pTxt_no HP.out (by rw [← HLN.out]; exact hlt))
    have z1 : (n : Int) < (v : Int) := by omega
    have HRF := Lib.hid (Raw.fin2 HR.out)
    have HG : Hid (W.grownBy ((w1.setCell ⟨g, 1, none⟩ (.bool true)).setCell ⟨g, 0, none⟩ (.slice none 0 0)) (some g)) := Lib.hid (hg1.trans ((grownR_set w1 g 1 (.bool true)).trans (grownR_set _ g 0 (.slice none 0 0))))
    go_wp2_with fail
    go_ret
    exact ⟨⟨#[]⟩, true, [], rfl, Nat.zero_le _, HRF.out, (fun p h => by rw [HF.out] at h; cases h), (fun _ => rfl), (fun _ => rfl), HG.out⟩
  · have HF := Lib.hid (pTxt_yes HP.out (by rw [← HLN.out]; exact hlt))
    obtain ⟨hr1, hd1⟩ := RdB.cutH hrd (v : Int) v rfl (by omega)
    obtain ⟨A2, hr2, hd2⟩ := RdB.cutL (P := Tryd.prog) (t := 33) hrd elem_u8 size_u8 (v : Int) v rfl (by omega)
    have hcv := conv_rd (RdB.below hd1 hb)
    have z1 : ¬ (n : Int) < (v : Int) := by omega
    have HRS := Lib.hid (Raw.step (t := 98) hb hgb kb hd2 (by omega : n - v ≤ M))
    have HS : Hid ((l1.take v).length ≤ M) := Lib.hid (by rw [List.length_take]; omega)
    clear hd1 hd2 hrd
    go_wp2_with fail
    go_ret
    refine ⟨⟨(l1.take v).toArray⟩, b1, l1.drop v, rfl, ?_, HRS.out, fun p h => ?_, fun h => ?_, fun h => ?_, hg1.trans (grownR_set _ _ _ _)⟩
    · have : (⟨(l1.take v).toArray⟩ : ByteArray).size = (l1.take v).length := by simp [ByteArray.size]
      rw [this]; exact HS.out
    · obtain ⟨q1, q2, q3⟩ := HF.out.1 p h
      exact ⟨q1, q2, by rw [HB1.out, q3, Bool.or_false]⟩
    · rw [HB1.out, HF.out.2 h, Bool.or_true]
    · rw [HB1.out, h, Bool.true_or]
end Go.Proofs.YtbeijpajodgpeaaDoor
/- What the readers read, told by Option; title and name. Printed by gen_c21.py -/
namespace Go.Proofs.YtbeijpajodgpeaaDoor
open Go.RowKit
set_option linter.unusedSimpArgs false
set_option linter.unusedVariables false

/-- what was read: a value, the state behind it; only the reader's block has turned -/
def RSt {α : Type} (t : Nat) (w0 W : World) (g M : Nat) (s : Option (List UInt8)) (p : List UInt8 → Option (α × List UInt8)) (val : α → Value) (wf : α → Prop) (e : Ending) (W' : World) : Prop :=
  ∃ a : α, e = .returned (val a) ∧ wf a ∧ Sta t w0 W' g M ((s.bind p).map (·.2)) ∧ (∀ q, s.bind p = some q → a = q.1) ∧ W.grownBy W' (some g)
theorem RNum.st {t : Nat} {w0 W W' : World} {g M : Nat} {bad : Bool} {l : List UInt8} {e : Ending} {s : Option (List UInt8)} (h : RNum t w0 W g M bad l e W') (hs1 : ∀ r, s = some r → bad = false ∧ l = r) (hs2 : s = none → bad = true) : RSt t w0 W g M s pNum (fun v : Nat => .int .i64 v) (· < 34359738368) e W' := by
  obtain ⟨v, l', he, hv, hR, hp, hg⟩ := h
  cases s with
  | none =>
    have hb := hs2 rfl
    subst hb
    exact ⟨v, he, hv, ⟨true, l', by simpa using hR, fun r h => (by cases h), fun _ => rfl⟩, fun q h => (by cases h), hg⟩
  | some r =>
    obtain ⟨rfl, rfl⟩ := hs1 r rfl
    cases hh : pNum l with
    | none =>
      rw [hh] at hR
      exact ⟨v, he, hv, ⟨true, l', hR, fun r h => (by rw [Option.bind_some, hh] at h; cases h), fun _ => rfl⟩, fun q h => (by rw [Option.bind_some, hh] at h; cases h), hg⟩
    | some p =>
      obtain ⟨h1, h2⟩ := hp p hh
      rw [hh] at hR
      refine ⟨v, he, hv, ⟨false, l', hR, fun r h => ?_, fun h => ?_⟩, fun q h => ?_, hg⟩
      · rw [Option.bind_some, hh] at h
        injection h with h
        exact ⟨rfl, h2.trans h⟩
      · rw [Option.bind_some, hh] at h; cases h
      · rw [Option.bind_some, hh] at h
        injection h with h
        rw [← h]; exact h1
theorem RTxt.st {t : Nat} {w0 W W' : World} {g M : Nat} {bad : Bool} {l : List UInt8} {e : Ending} {s : Option (List UInt8)} (h : RTxt t w0 W g M bad l e W') (hs1 : ∀ r, s = some r → bad = false ∧ l = r) (hs2 : s = none → bad = true) : RSt t w0 W g M s pTxt Value.string (·.size ≤ M) e W' := by
  obtain ⟨x, b', l', he, hv, hR, hp, hn, hb, hg⟩ := h
  cases s with
  | none =>
    exact ⟨x, he, hv, ⟨b', l', hR, fun r h => (by cases h), fun _ => hb (hs2 rfl)⟩, fun q h => (by cases h), hg⟩
  | some r =>
    obtain ⟨rfl, rfl⟩ := hs1 r rfl
    cases hh : pTxt l with
    | none => exact ⟨x, he, hv, ⟨b', l', hR, fun r h => (by rw [Option.bind_some, hh] at h; cases h), fun _ => hn hh⟩, fun q h => (by rw [Option.bind_some, hh] at h; cases h), hg⟩
    | some p =>
      obtain ⟨h1, h2, h3⟩ := hp p hh
      refine ⟨x, he, hv, ⟨b', l', hR, fun r h => ?_, fun h => ?_⟩, fun q h => ?_, hg⟩
      · rw [Option.bind_some, hh] at h
        injection h with h
        exact ⟨h3, h2.trans h⟩
      · rw [Option.bind_some, hh] at h; cases h
      · rw [Option.bind_some, hh] at h
        injection h with h
        rw [← h]; exact h1
theorem Sta.lt {t : Nat} {w0 W : World} {g M : Nat} {s : Option (List UInt8)} (h : Sta t w0 W g M s) : g < W.heap.size := by
  obtain ⟨bad, l, ⟨_, _, A, n, c, hh, _⟩, _⟩ := h
  exact Blk.lt hh
theorem Sta.base {t : Nat} {w0 W : World} {g M : Nat} {s : Option (List UInt8)} (h : Sta t w0 W g M s) : w0.heap.size ≤ g ∧ Below w0.heap.size w0 W := by
  obtain ⟨bad, l, ⟨h1, h2, _⟩, _⟩ := h
  exact ⟨h2, h1⟩
theorem grown_setN {W X : World} {r : Option Nat} (h : W.grownBy X r) {q i : Nat} (hq : W.heap.size ≤ q) (u : Value) : W.grownBy (X.setCell ⟨q, i, none⟩ u) r :=
  ⟨h.os, h.tape, h.output, by rw [size_set]; exact h.size, fun k hk hne => (heap_set_far _ _ _ _ _ (by omega)).trans (h.block k hk hne)⟩
theorem pTtl_bind (s : Option (List UInt8)) : s.bind pTtl = (((s.bind pNum).map (·.2)).bind pTxt).bind fun q => (s.bind pNum).map fun p => (((p.1 : Int), q.1), q.2) := by
  cases s with
  | none => rfl
  | some l =>
    simp only [Option.bind_some, pTtl]
    cases hh : pNum l with
    | none => rfl
    | some p =>
      simp only [Option.bind_some, Option.map_some]
      cases pTxt p.2 <;> rfl
theorem numS (w0 : World) (g M : Nat) (s : Option (List UInt8)) (W : World) (h : Sta 83 w0 W g M s) :
    Calls Tryd.prog 42 #[.pointer (some ⟨g, 0, none⟩)] W (RSt 83 w0 W g M s pNum (fun v : Nat => .int .i64 v) (· < 34359738368)) := by
  obtain ⟨bad, l, h1, h2, h3⟩ := h
  exact (rdnum_any w0 g M bad l W h1).mono fun e W' hq => hq.st h2 h3
theorem txtS (w0 : World) (g M : Nat) (s : Option (List UInt8)) (W : World) (h : Sta 83 w0 W g M s) :
    Calls Tryd.prog 61 #[.pointer (some ⟨g, 0, none⟩)] W (RSt 83 w0 W g M s pTxt Value.string (·.size ≤ M)) := by
  obtain ⟨bad, l, h1, h2, h3⟩ := h
  exact (rdtext_any w0 g M bad l W h1).mono fun e W' hq => hq.st h2 h3
set_option maxRecDepth 100000 in
set_option maxHeartbeats 4000000 in
theorem ttlS (w0 : World) (g M : Nat) (s : Option (List UInt8)) (W : World) (h : Sta 83 w0 W g M s) :
    Calls Tryd.prog 62 #[.pointer (some ⟨g, 0, none⟩)] W (RSt 83 w0 W g M s pTtl (fun x => .agg #[.int .i64 x.1, .string x.2]) (fun x => 0 ≤ x.1 ∧ x.1 < 34359738368 ∧ x.2.size ≤ M)) := by
  have hgl := h.lt
  have hgb := h.base.1
  have hb0 := h.base.2.size
  have kb : (W.alloc (.cells #[.int .i64 0, .string ⟨#[]⟩] 28)).heap[W.heap.size]? = some (.cells #[.int .i64 0, .string ⟨#[]⟩] 28 (0, 0)) := heap_new rfl
  have hS : Sta 83 w0 (W.alloc (.cells #[.int .i64 0, .string ⟨#[]⟩] 28)) g M s := h.call ((Below.refl _ _).alloc (Nat.le_refl _) _)
  have hG : W.grownBy (W.alloc (.cells #[.int .i64 0, .string ⟨#[]⟩] 28)) (some g) := World.grownBy_alloc W _ _
  go_enter Tryd.func62, Tryd.ntmps62
  go_wp2_with fail
  generalize W.alloc (.cells #[.int .i64 0, .string ⟨#[]⟩] 28) = W1 at *
  go_at_call 42
  refine (numS w0 g M s W1 hS).mono ?_
  rintro e w1 ⟨v, he, hv, hS1, hp1, hg1⟩
  obtain rfl : e = .returned (.int .i64 (v : Int)) := he
  have kb1 := heap_grown hg1 (by omega) kb
  have hG1 := hG.trans hg1
  have HP1 := Lib.hid hp1
  clear hp1 hS kb hG hg1
  go_wp2_with fail
  go_at_call 61
  refine (txtS w0 g M _ w1 hS1).mono ?_
  rintro e w2 ⟨x, he, hx, hS2, hp2, hg2⟩
  obtain rfl : e = .returned (.string x) := he
  have kb2 := heap_grown hg2 (by omega) kb1
  have kc2 := Blk.cell kb2
  have kf2 := Blk.frozen kb2
  have HG2 := Lib.hid (hG1.trans hg2)
  have HP2 := Lib.hid hp2
  have HS2 := Lib.hid hS2
  have kw : (w2.setCell ⟨W.heap.size, 0, none⟩ (.int .i64 (v : Int))).heap[W.heap.size]? = some (.cells #[.int .i64 (v : Int), .string ⟨#[]⟩] 28 (0, 0)) := heap_set_near _ _ _ _ _ _ kb2
  have kw2 : ((w2.setCell ⟨W.heap.size, 0, none⟩ (.int .i64 (v : Int))).setCell ⟨W.heap.size, 1, none⟩ (.string x)).heap[W.heap.size]? = some (.cells #[.int .i64 (v : Int), .string x] 28 (0, 0)) := heap_set_near _ _ _ _ _ _ kw
  have kcw := Blk.cell kw2
  clear hp2 hS1 kb1 hG1 hg2 hS2 kb2 kw
  go_wp2_with fail
  refine bodyPost_ret (v := .agg #[.int .i64 (v : Int), .string x]) ?_ rfl ⟨((v : Int), x), rfl, ⟨by omega, by omega, hx⟩, ?_, fun q hq => ?_, grown_setN (grown_setN HG2.out (Nat.le_refl _) _) (Nat.le_refl _) _⟩
  · simp [results, Tryd.results62, go_sem, kcw]
  · have e : (s.bind pTtl).map (·.2) = (((s.bind pNum).map (·.2)).bind pTxt).map (·.2) := by
      rw [pTtl_bind]
      cases hh : s.bind pNum with
      | none => rfl
      | some p =>
        simp only [Option.map_some, Option.bind_some]
        cases pTxt p.2 <;> rfl
    rw [e]
    exact (HS2.out.set (by omega) (by omega) _).set (by omega) (by omega) _
  · rw [pTtl_bind] at hq
    cases hh : s.bind pNum with
    | none => rw [hh] at hq; cases hq
    | some p =>
      have h1 := HP1.out p hh
      have h3 := HP2.out
      rw [hh] at hq h3
      simp only [Option.map_some, Option.bind_some] at hq h3
      cases hh2 : pTxt p.2 with
      | none => rw [hh2] at hq; cases hq
      | some q2 =>
        have h2 := h3 q2 hh2
        rw [hh2] at hq
        injection hq with hq
        rw [← hq, h1, h2]
theorem rnumS (w0 : World) (g M : Nat) (s : Option (List UInt8)) (W : World) (h : Sta 98 w0 W g M s) :
    Calls Tryd.prog 59 #[.pointer (some ⟨g, 0, none⟩)] W (RSt 98 w0 W g M s pNum (fun v : Nat => .int .i64 v) (· < 34359738368)) := by
  obtain ⟨bad, l, h1, h2, h3⟩ := h
  exact (rrdnum_any w0 g M bad l W h1).mono fun e W' hq => hq.st h2 h3
theorem rtxtS (w0 : World) (g M : Nat) (s : Option (List UInt8)) (W : World) (h : Sta 98 w0 W g M s) :
    Calls Tryd.prog 74 #[.pointer (some ⟨g, 0, none⟩)] W (RSt 98 w0 W g M s pTxt Value.string (·.size ≤ M)) := by
  obtain ⟨bad, l, h1, h2, h3⟩ := h
  exact (rrdtext_any w0 g M bad l W h1).mono fun e W' hq => hq.st h2 h3
set_option maxRecDepth 100000 in
set_option maxHeartbeats 4000000 in
theorem rttlS (w0 : World) (g M : Nat) (s : Option (List UInt8)) (W : World) (h : Sta 98 w0 W g M s) :
    Calls Tryd.prog 75 #[.pointer (some ⟨g, 0, none⟩)] W (RSt 98 w0 W g M s pTtl (fun x => .agg #[.int .i64 x.1, .string x.2]) (fun x => 0 ≤ x.1 ∧ x.1 < 34359738368 ∧ x.2.size ≤ M)) := by
  have hgl := h.lt
  have hgb := h.base.1
  have hb0 := h.base.2.size
  have kb : (W.alloc (.cells #[.int .i64 0, .string ⟨#[]⟩] 28)).heap[W.heap.size]? = some (.cells #[.int .i64 0, .string ⟨#[]⟩] 28 (0, 0)) := heap_new rfl
  have hS : Sta 98 w0 (W.alloc (.cells #[.int .i64 0, .string ⟨#[]⟩] 28)) g M s := h.call ((Below.refl _ _).alloc (Nat.le_refl _) _)
  have hG : W.grownBy (W.alloc (.cells #[.int .i64 0, .string ⟨#[]⟩] 28)) (some g) := World.grownBy_alloc W _ _
  go_enter Tryd.func75, Tryd.ntmps75
  go_wp2_with fail
  generalize W.alloc (.cells #[.int .i64 0, .string ⟨#[]⟩] 28) = W1 at *
  go_at_call 59
  refine (rnumS w0 g M s W1 hS).mono ?_
  rintro e w1 ⟨v, he, hv, hS1, hp1, hg1⟩
  obtain rfl : e = .returned (.int .i64 (v : Int)) := he
  have kb1 := heap_grown hg1 (by omega) kb
  have hG1 := hG.trans hg1
  have HP1 := Lib.hid hp1
  clear hp1 hS kb hG hg1
  go_wp2_with fail
  go_at_call 74
  refine (rtxtS w0 g M _ w1 hS1).mono ?_
  rintro e w2 ⟨x, he, hx, hS2, hp2, hg2⟩
  obtain rfl : e = .returned (.string x) := he
  have kb2 := heap_grown hg2 (by omega) kb1
  have kc2 := Blk.cell kb2
  have kf2 := Blk.frozen kb2
  have HG2 := Lib.hid (hG1.trans hg2)
  have HP2 := Lib.hid hp2
  have HS2 := Lib.hid hS2
  have kw : (w2.setCell ⟨W.heap.size, 0, none⟩ (.int .i64 (v : Int))).heap[W.heap.size]? = some (.cells #[.int .i64 (v : Int), .string ⟨#[]⟩] 28 (0, 0)) := heap_set_near _ _ _ _ _ _ kb2
  have kw2 : ((w2.setCell ⟨W.heap.size, 0, none⟩ (.int .i64 (v : Int))).setCell ⟨W.heap.size, 1, none⟩ (.string x)).heap[W.heap.size]? = some (.cells #[.int .i64 (v : Int), .string x] 28 (0, 0)) := heap_set_near _ _ _ _ _ _ kw
  have kcw := Blk.cell kw2
  clear hp2 hS1 kb1 hG1 hg2 hS2 kb2 kw
  go_wp2_with fail
  refine bodyPost_ret (v := .agg #[.int .i64 (v : Int), .string x]) ?_ rfl ⟨((v : Int), x), rfl, ⟨by omega, by omega, hx⟩, ?_, fun q hq => ?_, grown_setN (grown_setN HG2.out (Nat.le_refl _) _) (Nat.le_refl _) _⟩
  · simp [results, Tryd.results75, go_sem, kcw]
  · have e : (s.bind pTtl).map (·.2) = (((s.bind pNum).map (·.2)).bind pTxt).map (·.2) := by
      rw [pTtl_bind]
      cases hh : s.bind pNum with
      | none => rfl
      | some p =>
        simp only [Option.map_some, Option.bind_some]
        cases pTxt p.2 <;> rfl
    rw [e]
    exact (HS2.out.set (by omega) (by omega) _).set (by omega) (by omega) _
  · rw [pTtl_bind] at hq
    cases hh : s.bind pNum with
    | none => rw [hh] at hq; cases hq
    | some p =>
      have h1 := HP1.out p hh
      have h3 := HP2.out
      rw [hh] at hq h3
      simp only [Option.map_some, Option.bind_some] at hq h3
      cases hh2 : pTxt p.2 with
      | none => rw [hh2] at hq; cases hq
      | some q2 =>
        have h2 := h3 q2 hh2
        rw [hh2] at hq
        injection hq with hq
        rw [← hq, h1, h2]
end Go.Proofs.YtbeijpajodgpeaaDoor
/- The walk of the reader's history. Printed by gen_c22.py -/
namespace Go.Proofs.YtbeijpajodgpeaaDoor
open Go.RowKit
set_option linter.unusedSimpArgs false
set_option linter.unusedVariables false

/-- four readings one behind the other are a revision's -/
theorem pRv_states {s : Option (List UInt8)} (i : Nat) {x1 x2 x3 : ByteArray} {v : Nat}
    (h1 : ∀ q, s.bind pTxt = some q → x1 = q.1) (h2 : ∀ q, ((s.bind pTxt).map (·.2)).bind pTxt = some q → x2 = q.1)
    (h3 : ∀ q, ((((s.bind pTxt).map (·.2)).bind pTxt).map (·.2)).bind pTxt = some q → x3 = q.1)
    (h4 : ∀ q, ((((((s.bind pTxt).map (·.2)).bind pTxt).map (·.2)).bind pTxt).map (·.2)).bind pNum = some q → v = q.1) :
    ((((((((s.bind pTxt).map (·.2)).bind pTxt).map (·.2)).bind pTxt).map (·.2)).bind pNum).map (·.2)) = (s.bind (pRv i)).map (·.2) := by
  cases s with
  | none => rfl
  | some l =>
    simp only [Option.bind_some, pRv]
    cases pTxt l with
    | none => rfl
    | some a =>
      simp only [Option.bind_some, Option.map_some]
      cases pTxt a.2 with
      | none => rfl
      | some b =>
        simp only [Option.bind_some, Option.map_some]
        cases pTxt b.2 with
        | none => rfl
        | some c =>
          simp only [Option.bind_some, Option.map_some]
          cases pNum c.2 <;> rfl
theorem pRv_value {s : Option (List UInt8)} (i : Nat) {x1 x2 x3 : ByteArray} {v : Nat}
    (h1 : ∀ q, s.bind pTxt = some q → x1 = q.1) (h2 : ∀ q, ((s.bind pTxt).map (·.2)).bind pTxt = some q → x2 = q.1)
    (h3 : ∀ q, ((((s.bind pTxt).map (·.2)).bind pTxt).map (·.2)).bind pTxt = some q → x3 = q.1)
    (h4 : ∀ q, ((((((s.bind pTxt).map (·.2)).bind pTxt).map (·.2)).bind pTxt).map (·.2)).bind pNum = some q → v = q.1) :
    ∀ q, s.bind (pRv i) = some q → q.1 = ⟨i + 1, x1, x2, x3, v, 0⟩ := by
  intro q hq
  cases s with
  | none => cases hq
  | some l =>
    simp only [Option.bind_some, pRv] at hq h1 h2 h3 h4
    cases ha : pTxt l with
    | none => rw [ha] at hq; cases hq
    | some a =>
      rw [ha] at hq h2 h3 h4
      simp only [Option.bind_some, Option.map_some] at hq h2 h3 h4
      cases hb : pTxt a.2 with
      | none => rw [hb] at hq; cases hq
      | some b =>
        rw [hb] at hq h3 h4
        simp only [Option.bind_some, Option.map_some] at hq h3 h4
        cases hc : pTxt b.2 with
        | none => rw [hc] at hq; cases hq
        | some c =>
          rw [hc] at hq h4
          simp only [Option.bind_some, Option.map_some] at hq h4
          cases hd : pNum c.2 with
          | none => rw [hd] at hq; cases hq
          | some d =>
            rw [hd] at hq
            injection hq with hq
            rw [← hq, h1 a ha, h2 b hb, h3 c hc, h4 d hd]
/-- one revision more -/
theorem pRs_next {s : Option (List UInt8)} {i m : Nat} {L : List Rv} {r : Rv} {s' : Option (List UInt8)} (hs : s' = (s.bind (pRv i)).map (·.2)) (hr : ∀ q, s.bind (pRv i) = some q → q.1 = r) :
    (s.bind (pRs i (m + 1))).map (fun b => (L ++ b.1, b.2)) = (s'.bind (pRs (i + 1) m)).map fun b => ((L ++ [r]) ++ b.1, b.2) := by
  subst hs
  cases s with
  | none => rfl
  | some l =>
    simp only [Option.bind_some, pRs] at hr ⊢
    cases ha : pRv i l with
    | none => rfl
    | some a =>
      have := hr a ha
      simp only [Option.bind_some, Option.map_some]
      cases pRs (i + 1) m a.2 with
      | none => rfl
      | some b => simp [this]
/-- what a history's reading leaves -/
def RHst (t : Nat) (w0 W : World) (g M : Nat) (s : Option (List UInt8)) (e : Ending) (W' : World) : Prop := ∃ A n c L, e = .returned (.slice A n c) ∧ OwR RV 6 W' W.heap.size 67 A n c L ∧ (∀ r ∈ L, RvWf r) ∧ Sta t w0 W' g M ((s.bind pHst).map (·.2)) ∧ (∀ q, s.bind pHst = some q → L = q.1) ∧ W.grownBy W' (some g)
theorem OwV.lt {w : World} {base e n c : Nat} {A : Option Addr} {L : List Rv} (h : OwR RV 6 w base e A n c L) (g : Nat) (hg : A.map (·.block) = some g) : base ≤ g ∧ g < w.heap.size := by
  obtain ⟨xs, h1, h2⟩ := h.own
  rcases h1.2 with ⟨e1, e2⟩ | ⟨g', cap, cur, e1, e2, e3, _⟩
  · injection e1 with e1; subst e1; simp at hg
  · injection e1 with e1
    subst e1
    have : g' = g := by simpa using hg
    subst this
    exact ⟨e2, Blk.lt e3⟩
theorem OwV.kept {w w' : World} {base e n c : Nat} {A : Option Addr} {L : List Rv} (h : OwR RV 6 w base e A n c L) (hk : ∀ g, A.map (·.block) = some g → w'.heap[g]? = w.heap[g]?) : OwR RV 6 w' base e A n c L := by
  obtain ⟨xs, h1, h2⟩ := h.own
  refine ⟨h.len, h.cap, h.max, xs, ⟨h1.1, h1.2.imp id fun ⟨g, cap, cur, a1, a2, a3, r⟩ => ⟨g, cap, cur, a1, a2, (hk g ?_).trans a3, r⟩⟩, h2⟩
  injection a1 with a1
  rw [a1]
  rfl
theorem OwV.gr {w w' : World} {base e n c g : Nat} {A : Option Addr} {L : List Rv} (h : OwR RV 6 w base e A n c L) (hg : w.grownBy w' (some g)) (hb : g < base) : OwR RV 6 w' base e A n c L :=
  OwV.kept h fun q hq => hg.block q (OwV.lt h q hq).2 (fun e => by injection e with e; have := (OwV.lt h q hq).1; omega)
theorem OwV.st {w : World} {base e n c q i : Nat} {A : Option Addr} {L : List Rv} {u : Value} (h : OwR RV 6 w base e A n c L) (hq : A.map (·.block) ≠ some q) : OwR RV 6 (w.setCell ⟨q, i, none⟩ u) base e A n c L :=
  OwV.kept h fun g hg => heap_set_far _ _ _ _ _ (fun e => hq (by rw [hg, e]))
theorem Sta.own {t : Nat} {w0 w w' : World} {g M B : Nat} {s : Option (List UInt8)} (h : Sta t w0 w g M s) (hb : Below B w w') (hg : g < B) (hB : w0.heap.size ≤ B) : Sta t w0 w' g M s := by
  obtain ⟨bad, l, ⟨h1, h2, A, n, c, h3, h4⟩, h5⟩ := h
  exact ⟨bad, l, ⟨h1.trans (hb.mono hB), h2, A, n, c, (hb.block g hg).trans h3, h4⟩, h5⟩
theorem grown_own {W w w' : World} {r : Option Nat} (h : W.grownBy w r) (hb : Below W.heap.size w w') : W.grownBy w' r :=
  ⟨hb.os.trans h.os, hb.tape.trans h.tape, hb.output.trans h.output, Nat.le_trans h.size hb.size, fun k hk hne => (hb.block k hk).trans (h.block k hk hne)⟩
theorem Sta.bad {t : Nat} {w0 W : World} {g M : Nat} {s : Option (List UInt8)} (h : Sta t w0 W g M s) : Sta t w0 (W.setCell ⟨g, 1, none⟩ (.bool true)) g M none := by
  obtain ⟨bad, l, h1, _⟩ := h
  exact ⟨true, l, h1.fin, fun r h => (by cases h), fun _ => rfl⟩
theorem Sta.cells {t : Nat} {w0 W : World} {g M : Nat} {s : Option (List UInt8)} (h : Sta t w0 W g M s) : ∃ A n c, W.heap[g]? = some (.cells #[.slice A n c, .bool s.isNone] t (0, 0)) := by
  obtain ⟨bad, l, ⟨_, _, A, n, c, hh, _⟩, h2, h3⟩ := h
  cases s with
  | none => have := h3 rfl; subst this; exact ⟨A, n, c, hh⟩
  | some r => have := (h2 r rfl).1; subst this; exact ⟨A, n, c, hh⟩
theorem pHst_big {s : Option (List UInt8)} {v : Nat} (h : ∀ q, s.bind pNum = some q → v = q.1) (hv : 40 < v) : s.bind pHst = none := by
  cases s with
  | none => rfl
  | some l =>
    simp only [Option.bind_some, pHst] at h ⊢
    cases hh : pNum l with
    | none => rfl
    | some p =>
      have := h p hh
      simp only [Option.bind_some]
      rw [if_neg (by omega)]
theorem pHst_start {s : Option (List UInt8)} {v : Nat} (h : ∀ q, s.bind pNum = some q → v = q.1) (hv : ¬ 40 < v) : s.bind pHst = ((((s.bind pNum).map (·.2)).bind (pRs 0 v)).map fun b => ([] ++ b.1, b.2)) := by
  cases s with
  | none => rfl
  | some l =>
    simp only [Option.bind_some, pHst] at h ⊢
    cases hh : pNum l with
    | none => rfl
    | some p =>
      have := h p hh
      subst this
      simp only [Option.bind_some, Option.map_some]
      rw [if_pos (by omega)]
      simp
theorem rv_lit {w : World} (r : Rv) : Fits RV 6 w [r] r.cells := Fits.one (a := r) rfl rfl

set_option maxRecDepth 100000 in
set_option maxHeartbeats 8000000 in
theorem rdhst_any (w0 : World) (g M : Nat) (s : Option (List UInt8)) (W : World) (h : Sta 83 w0 W g M s) (hM : M ≤ maxLen) :
    Calls Tryd.prog 63 #[.pointer (some ⟨g, 0, none⟩)] W (RHst 83 w0 W g M s) := by
  obtain ⟨i0, hi0, hz0, hz1, hz2⟩ := info_parts rev_info
  have hgl := h.lt
  have hgb := h.base.1
  have HM := Lib.hid hM
  clear hM
  go_enter Tryd.func63, Tryd.ntmps63
  go_wp2_with fail
  go_at_call 42
  refine (numS w0 g M s W h).mono ?_
  rintro e w1 ⟨v, he, hv, hS1, hp1, hg1⟩
  obtain rfl : e = .returned (.int .i64 (v : Int)) := he
  clear h
  by_cases h40 : 40 < v
  · have HF := Lib.hid (pHst_big hp1 h40)
    obtain ⟨Ar, nr, cr, kb⟩ := hS1.cells
    have HS := Lib.hid hS1.bad
    have kc := Blk.cell kb
    have kf := Blk.frozen kb
    have z1 : (40 : Int) < (v : Int) := by omega
    clear hp1 hS1
    go_wp2_with fail
    go_ret
    exact ⟨none, 0, 0, [], rfl, OwR.nil _ _ _ _ _, (fun r hr => by cases hr), by rw [HF.out]; exact HS.out, (fun q hq => by rw [HF.out] at hq; cases hq), hg1.trans (grownR_set _ _ _ _)⟩
  · have HP0 := Lib.hid (pHst_start hp1 h40)
    have z1 : ¬ (40 : Int) < (v : Int) := by omega
    clear hp1
    go_wp2_with fail
    go_loopw [4, 5] (fun a q wr => ∃ (i : Nat) (A : Option Addr) (n c : Nat) (L : List Rv) (si : Option (List UInt8)), i ≤ v ∧ a = .slice A n c ∧ q = .int .i64 i ∧ OwR RV 6 wr W.heap.size 67 A n c L ∧ n = i ∧ Hid (∀ r ∈ L, RvWf r) ∧ Sta 83 w0 wr g M si ∧ W.grownBy wr (some g) ∧ Hid (s.bind pHst = (si.bind (pRs i (v - i))).map fun b => (L ++ b.1, b.2))) (fun _ q _ => v - (intOf q).toNat)
    case atStart => exact ⟨0, none, 0, 0, [], _, Nat.zero_le _, rfl, rfl, OwR.nil _ _ _ _ _, rfl, Lib.hid (fun r hr => by cases hr), hS1, hg1, HP0⟩
    case round =>
      obtain ⟨i, A, n, c, L, si, hi, rfl, rfl, ho, hni, HWF, hS, hg, HP⟩ := hrel
      subst hni
      clear hS1 HP0 z1
      obtain ⟨Ar, nr, cr, kb⟩ := hS.cells
      have kc := Blk.cell kb
      have hgz := hS.lt
      have z0 : (0 : Int) ≤ (n : Int) := by omega
      cases si with
      | none =>
        have HF : Hid (s.bind pHst = none) := Lib.hid (by rw [HP.out]; rfl)
        by_cases hlt : n < v
        · have z2 : (n : Int) < (v : Int) := by omega
          go_wp2_with fail
          go_ret
          exact ⟨A, n, c, L, rfl, ho, HWF.out, by rw [HF.out]; exact hS, (fun q hq => by rw [HF.out] at hq; cases hq), hg⟩
        · have z2 : ¬ (n : Int) < (v : Int) := by omega
          go_wp2_with fail
          go_ret
          exact ⟨A, n, c, L, rfl, ho, HWF.out, by rw [HF.out]; exact hS, (fun q hq => by rw [HF.out] at hq; cases hq), hg⟩
      | some l =>
        by_cases hlt : n < v
        · have z2 : (n : Int) < (v : Int) := by omega
          have z3 : (n : Int) ≤ 40 := by omega
          go_wp2_with fail
          have hal : Below wr.heap.size wr (wr.alloc (.cells #[.int .i64 ((n : Int) + 1), .string ⟨#[]⟩, .string ⟨#[]⟩, .string ⟨#[]⟩, .int .i64 0, .int .i64 0] 67)) := (Below.refl _ _).alloc (Nat.le_refl _) _
          have kv0 : (wr.alloc (.cells #[.int .i64 ((n : Int) + 1), .string ⟨#[]⟩, .string ⟨#[]⟩, .string ⟨#[]⟩, .int .i64 0, .int .i64 0] 67)).heap[wr.heap.size]? = some (.cells #[.int .i64 ((n : Int) + 1), .string ⟨#[]⟩, .string ⟨#[]⟩, .string ⟨#[]⟩, .int .i64 0, .int .i64 0] 67 (0, 0)) := heap_new rfl
          have hS0 := hS.call hal
          have ho0 := ho.call RV.stay hal
          have hg0 := hg.trans (World.grownBy_alloc wr (.cells #[.int .i64 ((n : Int) + 1), .string ⟨#[]⟩, .string ⟨#[]⟩, .string ⟨#[]⟩, .int .i64 0, .int .i64 0] 67) (some g))
          have hAb : A.map (·.block) ≠ some wr.heap.size := fun e => by have := (OwV.lt ho _ e).2; omega
          have hbx0 := hg.size
          have hbx1 : w0.heap.size ≤ wr.heap.size := by omega
          clear hal hS ho hg kb kc
          generalize wr.alloc (.cells #[.int .i64 ((n : Int) + 1), .string ⟨#[]⟩, .string ⟨#[]⟩, .string ⟨#[]⟩, .int .i64 0, .int .i64 0] 67) = y0 at *
          generalize wr.heap.size = bx at *
          have hgx : g ≠ bx := by omega
          go_at_call 61
          refine (txtS w0 g M _ y0 hS0).mono ?_
          rintro e u1 ⟨x1, he, hx1, hS1u, hp1, hq1⟩
          obtain rfl : e = .returned (.string x1) := he
          have ku1 := heap_grown hq1 (Ne.symm hgx) kv0
          have kv1 : (u1.setCell ⟨bx, 1, none⟩ (.string x1)).heap[bx]? = some (.cells #[.int .i64 ((n : Int) + 1), .string x1, .string ⟨#[]⟩, .string ⟨#[]⟩, .int .i64 0, .int .i64 0] 67 (0, 0)) := heap_set_near _ _ _ _ _ _ ku1
          have hS1 := hS1u.set (i := 1) hgx hbx1 (.string x1)
          have ho1 := OwV.st (i := 1) (u := .string x1) (OwV.gr ho0 hq1 hgl) hAb
          have hg1 := grown_setN (i := 1) (hg0.trans hq1) hbx0 (.string x1)
          have kc1 := Blk.cell ku1
          have kf1 := Blk.frozen ku1
          have hsz1 := hq1.size
          have HPq1 := Lib.hid hp1
          clear hS0 ho0 hg0 hq1 kv0 hS1u hp1 ku1
          go_wp2_with fail
          clear kc1 kf1
          generalize u1.setCell ⟨bx, 1, none⟩ (.string x1) = y1 at *
          go_at_call 61
          refine (txtS w0 g M _ y1 hS1).mono ?_
          rintro e u2 ⟨x2, he, hx2, hS2u, hp2, hq2⟩
          obtain rfl : e = .returned (.string x2) := he
          have ku2 := heap_grown hq2 (Ne.symm hgx) kv1
          have kv2 : (u2.setCell ⟨bx, 2, none⟩ (.string x2)).heap[bx]? = some (.cells #[.int .i64 ((n : Int) + 1), .string x1, .string x2, .string ⟨#[]⟩, .int .i64 0, .int .i64 0] 67 (0, 0)) := heap_set_near _ _ _ _ _ _ ku2
          have hS2 := hS2u.set (i := 2) hgx hbx1 (.string x2)
          have ho2 := OwV.st (i := 2) (u := .string x2) (OwV.gr ho1 hq2 hgl) hAb
          have hg2 := grown_setN (i := 2) (hg1.trans hq2) hbx0 (.string x2)
          have kc2 := Blk.cell ku2
          have kf2 := Blk.frozen ku2
          have hsz2 := hq2.size
          have HPq2 := Lib.hid hp2
          clear hS1 ho1 hg1 hq2 kv1 hS2u hp2 ku2
          go_wp2_with fail
          clear kc2 kf2
          generalize u2.setCell ⟨bx, 2, none⟩ (.string x2) = y2 at *
          go_at_call 61
          refine (txtS w0 g M _ y2 hS2).mono ?_
          rintro e u3 ⟨x3, he, hx3, hS3u, hp3, hq3⟩
          obtain rfl : e = .returned (.string x3) := he
          have ku3 := heap_grown hq3 (Ne.symm hgx) kv2
          have kv3 : (u3.setCell ⟨bx, 3, none⟩ (.string x3)).heap[bx]? = some (.cells #[.int .i64 ((n : Int) + 1), .string x1, .string x2, .string x3, .int .i64 0, .int .i64 0] 67 (0, 0)) := heap_set_near _ _ _ _ _ _ ku3
          have hS3 := hS3u.set (i := 3) hgx hbx1 (.string x3)
          have ho3 := OwV.st (i := 3) (u := .string x3) (OwV.gr ho2 hq3 hgl) hAb
          have hg3 := grown_setN (i := 3) (hg2.trans hq3) hbx0 (.string x3)
          have kc3 := Blk.cell ku3
          have kf3 := Blk.frozen ku3
          have hsz3 := hq3.size
          have HPq3 := Lib.hid hp3
          clear hS2 ho2 hg2 hq3 kv2 hS3u hp3 ku3
          go_wp2_with fail
          clear kc3 kf3
          generalize u3.setCell ⟨bx, 3, none⟩ (.string x3) = y3 at *
          go_at_call 42
          refine (numS w0 g M _ y3 hS3).mono ?_
          rintro e u4 ⟨v4, he, hx4, hS4u, hp4, hq4⟩
          obtain rfl : e = .returned (.int .i64 (v4 : Int)) := he
          have ku4 := heap_grown hq4 (Ne.symm hgx) kv3
          have kv4 : (u4.setCell ⟨bx, 4, none⟩ (.int .i64 (v4 : Int))).heap[bx]? = some (.cells #[.int .i64 ((n : Int) + 1), .string x1, .string x2, .string x3, .int .i64 (v4 : Int), .int .i64 0] 67 (0, 0)) := heap_set_near _ _ _ _ _ _ ku4
          have hS4 := hS4u.set (i := 4) hgx hbx1 (.int .i64 (v4 : Int))
          have ho4 := OwV.st (i := 4) (u := .int .i64 (v4 : Int)) (OwV.gr ho3 hq4 hgl) hAb
          have hg4 := grown_setN (i := 4) (hg3.trans hq4) hbx0 (.int .i64 (v4 : Int))
          have kc4 := Blk.cell ku4
          have kf4 := Blk.frozen ku4
          have hsz4 := hq4.size
          have HPq4 := Lib.hid hp4
          clear hS3 ho3 hg3 hq4 kv3 hS4u hp4 ku4
          go_upto_region 14 with fail
          clear kc4 kf4
          generalize u4.setCell ⟨bx, 4, none⟩ (.int .i64 (v4 : Int)) = y4 at *
          have kcy := Blk.cell kv4
          have hyz : W.heap.size ≤ y4.heap.size := hg4.size
          have hl4 : Below y4.heap.size y4 (y4.alloc (.cells #[.int .i64 ((n : Int) + 1), .string x1, .string x2, .string x3, .int .i64 (v4 : Int), .int .i64 0] 67)) := (Below.refl _ _).alloc (Nat.le_refl _) _
          have hol := ho4.call RV.stay hl4
          have HRL := Lib.hid (fun (w : World) => rv_lit (w := w) ⟨(n : Int) + 1, x1, x2, x3, (v4 : Int), 0⟩)
          go_wp2_with (at_builtin; go_must (refine wpList_append_r _ rfl (.tmp 41) (.tmp 43) 29 rfl 6 72 W.heap.size 67 i0 _ RV.stay (by decide) Tryd.underlying29 hi0 hz0 hz1 hz2 rfl (by omega) A n c L rfl hol (some ⟨y4.heap.size, 0, none⟩) 1 1 rfl [⟨(n : Int) + 1, x1, x2, x3, (v4 : Int), 0⟩] _ (Reads.litAt (cs := #[.int .i64 ((n : Int) + 1), .string x1, .string x2, .string x3, .int .i64 (v4 : Int), .int .i64 0]) rfl rfl) (HRL.out _) rfl ?_ ?_ ?_ ?_ ?_; (focus (simp [Value.oneCell'])); (focus (unfold maxLen; omega)); (focus omega); (focus (rw [size_alloc_]; omega)); intro A5 c5 w5 ho5 hg5))
          have hw1 : Hid (Lit.wf (.int .i64 ((n : Int) + 1)) = true) := Lib.hid (WalkArith.wf_i64 (by omega))
          have hw2 : Hid (Lit.wf (.int .i64 (v4 : Int)) = true) := Lib.hid (WalkArith.wf_i64 (by omega))
          have hw3 : Hid (Lit.wf (.int .i64 0) = true) := Lib.hid (by decide)
          have HWF2 : Hid (∀ r ∈ L ++ [⟨(n : Int) + 1, x1, x2, x3, (v4 : Int), 0⟩], RvWf r) := Lib.hid (fun r hr => by
            rcases List.mem_append.1 hr with h | h
            · exact HWF.out r h
            · simp only [List.mem_singleton] at h
              subst h
              exact ⟨hw1.out, Nat.le_trans hx1 HM.out, Nat.le_trans hx2 HM.out, Nat.le_trans hx3 HM.out, hw2.out, hw3.out⟩)
          go_roundw
          case rel => exact ⟨n + 1, A5, n + 1, c5, _, _, by omega, rfl, by go_num, ho5, rfl, HWF2, (hS4.call hl4).own hg5.b hgl (by omega), grown_own (hg4.trans (World.grownBy_alloc y4 _ _)) hg5.b, Lib.hid (by rw [HP.out, show v - n = (v - (n + 1)) + 1 by omega]; exact pRs_next (pRv_states n HPq1.out HPq2.out HPq3.out HPq4.out) (pRv_value n HPq1.out HPq2.out HPq3.out HPq4.out))⟩
          case measure => simp [intOf]; omega
        · have HF : Hid (s.bind pHst = some (L, l)) := Lib.hid (by rw [HP.out, show v - n = 0 by omega]; simp [pRs])
          have z2 : ¬ (n : Int) < (v : Int) := by omega
          go_wp2_with fail
          go_ret
          exact ⟨A, n, c, L, rfl, ho, HWF.out, by rw [HF.out]; exact hS, (fun q hq => by rw [HF.out] at hq; injection hq with hq; rw [← hq]), hg⟩
end Go.Proofs.YtbeijpajodgpeaaDoor
/- One change is read field by field (plain). Printed by gen_c23.py -/
namespace Go.Proofs.YtbeijpajodgpeaaDoor
open Go.RowKit
set_option linter.unusedSimpArgs false
set_option linter.unusedVariables false

/-- the state behind a reading -/
def nx {α : Type} (s : Option (List UInt8)) (p : List UInt8 → Option (α × List UInt8)) : Option (List UInt8) := (s.bind p).map (·.2)
theorem bind_ok {α γ : Type} {s : Option (List UInt8)} {p : List UInt8 → Option (α × List UInt8)} {a : α} (h : ∀ q, s.bind p = some q → a = q.1) (F : α → List UInt8 → Option γ) : (s.bind fun l => (p l).bind fun q => F q.1 q.2) = (nx s p).bind (F a) := by
  unfold nx
  cases s with
  | none => rfl
  | some l =>
    simp only [Option.bind_some] at h ⊢
    cases hh : p l with
    | none => rfl
    | some q => rw [h q hh]; rfl
theorem map_ok {α γ : Type} {s : Option (List UInt8)} {p : List UInt8 → Option (α × List UInt8)} {a : α} (h : ∀ q, s.bind p = some q → a = q.1) (F : α → γ) : (s.bind fun l => (p l).map fun q => (F q.1, q.2)) = (nx s p).map fun l => (F a, l) := by
  unfold nx
  cases s with
  | none => rfl
  | some l =>
    simp only [Option.bind_some] at h ⊢
    cases hh : p l with
    | none => rfl
    | some q => rw [h q hh]; rfl
theorem nx_off {α : Type} (s : Option (List UInt8)) (d : α) (p : List UInt8 → Option (α × List UInt8)) : nx s (opt false d p) = s := by
  unfold nx opt
  cases s <;> rfl
theorem nx_on {α : Type} (s : Option (List UInt8)) (d : α) (p : List UInt8 → Option (α × List UInt8)) : nx s (opt true d p) = nx s p := by
  unfold nx opt
  cases s <;> rfl
theorem ok_off {α : Type} {s : Option (List UInt8)} {d : α} {p : List UInt8 → Option (α × List UInt8)} : ∀ q, s.bind (opt false d p) = some q → d = q.1 := by
  intro q h
  unfold opt at h
  cases s with
  | none => cases h
  | some l =>
    simp at h
    rw [← h]
theorem ok_on {α : Type} {s : Option (List UInt8)} {d a : α} {p : List UInt8 → Option (α × List UInt8)} (h : ∀ q, s.bind p = some q → a = q.1) : ∀ q, s.bind (opt true d p) = some q → a = q.1 := by
  intro q hq
  unfold opt at hq
  exact h q (by simpa using hq)
theorem pInt_ok {s : Option (List UInt8)} {v : Nat} (h : ∀ q, s.bind pNum = some q → v = q.1) : ∀ q, s.bind pInt = some q → ((v : Int) = q.1) := by
  intro q hq
  cases s with
  | none => cases hq
  | some l =>
    simp only [Option.bind_some, pInt] at hq h
    cases hh : pNum l with
    | none => rw [hh] at hq; cases hq
    | some p =>
      rw [hh] at hq
      injection hq with hq
      rw [← hq, h p hh]
theorem pInt_nx (s : Option (List UInt8)) : nx s pInt = nx s pNum := by
  unfold nx pInt
  cases s with
  | none => rfl
  | some l =>
    simp only [Option.bind_some]
    cases pNum l <;> rfl
/-- a change is read field by field -/
theorem pCg_chain {s : Option (List UInt8)} {k : Int} {u nt tx : ByteArray} {t o : Int × ByteArray} {n : Int} {hs : List Rv}
    (h0 : ∀ q, s.bind pInt = some q → k = q.1) (hk : fV k = true)
    (h1 : ∀ q, (nx s pInt).bind (opt (fU k) ⟨#[]⟩ pTxt) = some q → u = q.1)
    (h2 : ∀ q, (nx (nx s pInt) (opt (fU k) ⟨#[]⟩ pTxt)).bind (opt (fN k) ⟨#[]⟩ pTxt) = some q → nt = q.1)
    (h3 : ∀ q, (nx (nx (nx s pInt) (opt (fU k) ⟨#[]⟩ pTxt)) (opt (fN k) ⟨#[]⟩ pTxt)).bind (opt (fT k) (0, ⟨#[]⟩) pTtl) = some q → t = q.1)
    (h4 : ∀ q, (nx (nx (nx (nx s pInt) (opt (fU k) ⟨#[]⟩ pTxt)) (opt (fN k) ⟨#[]⟩ pTxt)) (opt (fT k) (0, ⟨#[]⟩) pTtl)).bind (opt (fO k) (0, ⟨#[]⟩) pTtl) = some q → o = q.1)
    (h5 : ∀ q, (nx (nx (nx (nx (nx s pInt) (opt (fU k) ⟨#[]⟩ pTxt)) (opt (fN k) ⟨#[]⟩ pTxt)) (opt (fT k) (0, ⟨#[]⟩) pTtl)) (opt (fO k) (0, ⟨#[]⟩) pTtl)).bind (opt (fN k) ⟨#[]⟩ pTxt) = some q → tx = q.1)
    (h6 : ∀ q, (nx (nx (nx (nx (nx (nx s pInt) (opt (fU k) ⟨#[]⟩ pTxt)) (opt (fN k) ⟨#[]⟩ pTxt)) (opt (fT k) (0, ⟨#[]⟩) pTtl)) (opt (fO k) (0, ⟨#[]⟩) pTtl)) (opt (fN k) ⟨#[]⟩ pTxt)).bind (opt (fK k) 0 pInt) = some q → n = q.1)
    (h7 : ∀ q, (nx (nx (nx (nx (nx (nx (nx s pInt) (opt (fU k) ⟨#[]⟩ pTxt)) (opt (fN k) ⟨#[]⟩ pTxt)) (opt (fT k) (0, ⟨#[]⟩) pTtl)) (opt (fO k) (0, ⟨#[]⟩) pTtl)) (opt (fN k) ⟨#[]⟩ pTxt)) (opt (fK k) 0 pInt)).bind (opt (fH k) [] pHst) = some q → hs = q.1) :
    s.bind pCg = (nx (nx (nx (nx (nx (nx (nx (nx s pInt) (opt (fU k) ⟨#[]⟩ pTxt)) (opt (fN k) ⟨#[]⟩ pTxt)) (opt (fT k) (0, ⟨#[]⟩) pTtl)) (opt (fO k) (0, ⟨#[]⟩) pTtl)) (opt (fN k) ⟨#[]⟩ pTxt)) (opt (fK k) 0 pInt)) (opt (fH k) [] pHst)).map fun l => (⟨k, u, nt, t.1, t.2, o.1, o.2, tx, n, hs⟩, l) := by
  unfold pCg
  rw [bind_ok h0 (fun kk l => if fV kk = false then none else (opt (fU kk) ⟨#[]⟩ pTxt l).bind fun u => (opt (fN kk) ⟨#[]⟩ pTxt u.2).bind fun nt => (opt (fT kk) (0, ⟨#[]⟩) pTtl nt.2).bind fun t => (opt (fO kk) (0, ⟨#[]⟩) pTtl t.2).bind fun o => (opt (fN kk) ⟨#[]⟩ pTxt o.2).bind fun x => (opt (fK kk) 0 pInt x.2).bind fun n => (opt (fH kk) [] pHst n.2).map fun h => ((⟨kk, u.1, nt.1, t.1.1, t.1.2, o.1.1, o.1.2, x.1, n.1, h.1⟩ : Cg), h.2))]
  simp only [hk, Bool.true_eq_false, if_false]
  rw [bind_ok h1 (fun u l => (opt (fN k) ⟨#[]⟩ pTxt l).bind fun nt => (opt (fT k) (0, ⟨#[]⟩) pTtl nt.2).bind fun t => (opt (fO k) (0, ⟨#[]⟩) pTtl t.2).bind fun o => (opt (fN k) ⟨#[]⟩ pTxt o.2).bind fun x => (opt (fK k) 0 pInt x.2).bind fun n => (opt (fH k) [] pHst n.2).map fun h => ((⟨k, u, nt.1, t.1.1, t.1.2, o.1.1, o.1.2, x.1, n.1, h.1⟩ : Cg), h.2))]
  rw [bind_ok h2 (fun nt l => (opt (fT k) (0, ⟨#[]⟩) pTtl l).bind fun t => (opt (fO k) (0, ⟨#[]⟩) pTtl t.2).bind fun o => (opt (fN k) ⟨#[]⟩ pTxt o.2).bind fun x => (opt (fK k) 0 pInt x.2).bind fun n => (opt (fH k) [] pHst n.2).map fun h => ((⟨k, u, nt, t.1.1, t.1.2, o.1.1, o.1.2, x.1, n.1, h.1⟩ : Cg), h.2))]
  rw [bind_ok h3 (fun t l => (opt (fO k) (0, ⟨#[]⟩) pTtl l).bind fun o => (opt (fN k) ⟨#[]⟩ pTxt o.2).bind fun x => (opt (fK k) 0 pInt x.2).bind fun n => (opt (fH k) [] pHst n.2).map fun h => ((⟨k, u, nt, t.1, t.2, o.1.1, o.1.2, x.1, n.1, h.1⟩ : Cg), h.2))]
  rw [bind_ok h4 (fun o l => (opt (fN k) ⟨#[]⟩ pTxt l).bind fun x => (opt (fK k) 0 pInt x.2).bind fun n => (opt (fH k) [] pHst n.2).map fun h => ((⟨k, u, nt, t.1, t.2, o.1, o.2, x.1, n.1, h.1⟩ : Cg), h.2))]
  rw [bind_ok h5 (fun x l => (opt (fK k) 0 pInt l).bind fun n => (opt (fH k) [] pHst n.2).map fun h => ((⟨k, u, nt, t.1, t.2, o.1, o.2, x, n.1, h.1⟩ : Cg), h.2))]
  rw [bind_ok h6 (fun n l => (opt (fH k) [] pHst l).map fun h => ((⟨k, u, nt, t.1, t.2, o.1, o.2, tx, n, h.1⟩ : Cg), h.2))]
  exact map_ok h7 (fun h => (⟨k, u, nt, t.1, t.2, o.1, o.2, tx, n, h⟩ : Cg))
/-- an unknown kind -/
theorem pCg_no {s : Option (List UInt8)} {k : Int} (h0 : ∀ q, s.bind pInt = some q → k = q.1) (hk : fV k = false) : s.bind pCg = none := by
  unfold pCg
  rw [bind_ok h0 (fun kk l => if fV kk = false then none else (opt (fU kk) ⟨#[]⟩ pTxt l).bind fun u => (opt (fN kk) ⟨#[]⟩ pTxt u.2).bind fun nt => (opt (fT kk) (0, ⟨#[]⟩) pTtl nt.2).bind fun t => (opt (fO kk) (0, ⟨#[]⟩) pTtl t.2).bind fun o => (opt (fN kk) ⟨#[]⟩ pTxt o.2).bind fun x => (opt (fK kk) 0 pInt x.2).bind fun n => (opt (fH kk) [] pHst n.2).map fun h => ((⟨kk, u.1, nt.1, t.1.1, t.1.2, o.1.1, o.1.2, x.1, n.1, h.1⟩ : Cg), h.2))]
  simp only [hk, if_true]
  cases nx s pInt <;> rfl
end Go.Proofs.YtbeijpajodgpeaaDoor
