/- The walks of the letters. -/
import Derived.Test.YtiggholdcebjjaaDoorS7
import Derived.Test.YtiggholdcebjjaaDoorCP
import Derived.Lib.ConvBytes
import Derived.Laws.IdiomStrings
import Derived.Deep.RegionHeld3
namespace Go.Proofs.YtiggholdcebjjaaDoor
open Go.RowKit
set_option linter.unusedSimpArgs false
set_option linter.unusedVariables false

abbrev bl (s : ByteArray) : List UInt8 := s.data.toList
theorem bl_len (s : ByteArray) : (bl s).length = s.size := by simp
/-- block g is the row of a conversion and holds the bytes l -/
def BB (w : World) (g : Nat) (l : List UInt8) : Prop := ∃ cv : Array Value, w.heap[g]? = some (.cells cv 5 (cv.size, cv.size + 1)) ∧ cv.toList.take l.length = bs l ∧ l.length ≤ cv.size
theorem BB.new (w : World) (s : ByteArray) : BB (Lib.bytesWorld w 5 s) w.heap.size (bl s) := by
  refine ⟨_, Lib.bytesWorld_at_new w _ s, ?_, ?_⟩
  · unfold Lib.bytesCells
    rw [Array.toList_append, List.take_append_of_le_length (by simp)]
    rw [List.take_of_length_le (by simp)]
    simp [bs]
  · unfold Lib.bytesCells
    simp
theorem below_bytes (w : World) (s : ByteArray) : Below w.heap.size w (Lib.bytesWorld w 5 s) := by
  refine ⟨rfl, rfl, rfl, by rw [Lib.bytesWorld_size]; omega, fun k hk => Lib.bytesWorld_at_old w _ s k hk⟩
theorem BB.cell {w : World} {g j : Nat} {l : List UInt8} (h : BB w g l) (hj : j < l.length) : w.cell? ⟨g, j, none⟩ = some (.int .u8 ((l.getD j 0).toNat : Int)) ∧ w.frozen? ⟨g, j, none⟩ = false := by
  obtain ⟨cv, h1, h2, h3⟩ := h
  constructor
  · rw [cell_of_row w g j cv _ _ h1]
    have e : (bs l)[j]? = some (.int .u8 ((l.getD j 0).toNat : Int)) := by simp [bs, List.getD, List.getElem?_eq_getElem hj]
    rw [← h2, List.getElem?_take, if_pos hj] at e
    simpa using e
  · simp only [World.frozen?, h1]
    simp
    omega
theorem BB.store {w : World} {g j : Nat} {l : List UInt8} (h : BB w g l) (hj : j < l.length) (b : UInt8) : BB (w.setCell ⟨g, j, none⟩ (.int .u8 (b.toNat : Int))) g (l.set j b) := by
  obtain ⟨cv, h1, h2, h3⟩ := h
  refine ⟨cv.setIfInBounds j (.int .u8 (b.toNat : Int)), ?_, ?_, by rw [List.length_set]; simpa using h3⟩
  · simp [World.setCell, Array.getElem?_modify, h1]
  · rw [List.length_set, Array.toList_setIfInBounds, List.take_set, h2]
    simp [bs, List.map_set]
theorem BB.back {w : World} {g c : Nat} {l : List UInt8} (h : BB w g l) : (convert 43 9 (.slice (some ⟨g, 0, none⟩) l.length c)).run Tryd.prog w = .ok (.string ⟨l.toArray⟩) w := by
  refine run_convert_bytes_back w _ _ 5 ⟨g, 0, none⟩ c l Tryd.underlying43 Tryd.underlying5 Tryd.underlying9 (fun j hj => ?_)
  have e : (⟨g, 0, none⟩ : Addr).add j = ⟨g, j, none⟩ := by
    unfold Addr.add
    by_cases h0 : j = 0 <;> simp [h0]
  rw [e, (BB.cell h hj).1]
  simp [List.getD, List.getElem?_eq_getElem hj]
theorem BB.call {w w' : World} {g : Nat} {l : List UInt8} (h : BB w g l) (hb : Below w.heap.size w w') : BB w' g l := by
  obtain ⟨cv, h1, h2, h3⟩ := h
  exact ⟨cv, heap_call hb h1, h2, h3⟩

set_option maxRecDepth 100000 in
set_option maxHeartbeats 4000000 in
theorem change_Lower (s : ByteArray) (w : World) (hs : s.size ≤ 8796093022207) :
    Calls Tryd.prog 17 #[.string s, .int .u8 65, .int .u8 97] w fun e w' => e = .returned (.string ⟨((bl s).map (ch false)).toArray⟩) ∧ Below w.heap.size w w' := by
  have hl := bl_len s
  have hb0 := below_bytes w s
  have hB0 := BB.new w s
  obtain ⟨l, hll⟩ : ∃ l, l = bl s := ⟨_, rfl⟩
  rw [← hll] at hB0 hl ⊢
  have HL := Lib.hid hl
  clear hll hl
  have kc : ∀ W : World, (convert 9 43 (.string s)).run Tryd.prog W = .ok (.slice (some ⟨W.heap.size, 0, none⟩) s.size (grownCap W s.size 0 5)) (Lib.bytesWorld W 5 s) := fun W => Lib.run_convert_string_bytes W _ _ _ s Tryd.underlying9 Tryd.underlying43 Tryd.underlying5
  go_enter Tryd.func17, Tryd.ntmps17
  go_wp2
  clear kc
  generalize grownCap w s.size 0 5 = cap at *
  generalize Lib.bytesWorld w 5 s = W1 at *
  go_loopw [14] (fun v14 wr => ∃ k : Nat, k ≤ s.size ∧ v14 = .int .i64 k ∧ BB wr w.heap.size (cs false k l) ∧ Below w.heap.size w wr) (fun v14 _ => s.size - (intOf v14).toNat)
  case atStart => exact ⟨0, Nat.zero_le _, rfl, by rw [cs_zero]; exact hB0, hb0⟩
  case round =>
    obtain ⟨k, hk, rfl, hB, hbw⟩ := hrel
    by_cases hlt : k < s.size
    · have hkl : k < l.length := by rw [HL.out]; exact hlt
      obtain ⟨c1, c2⟩ := BB.cell hB (j := k) (by rw [cs_len]; exact hkl)
      rw [cs_get _ hkl] at c1
      have HST := Lib.hid (BB.store hB (j := k) (by rw [cs_len]; exact hkl) (ch false (l.getD k 0)))
      rw [cs_set _ hkl] at HST
      have HSM := Lib.hid (cs_same false hkl)
      have hcn := ch_toNat false (l.getD k 0)
      have hci := UInt8.toNat_lt (l.getD k 0)
      have HCE : Hid (¬ (65 ≤ (l.getD k 0).toNat ∧ (l.getD k 0).toNat ≤ 90) → ch false (l.getD k 0) = l.getD k 0) := Lib.hid fun h => by unfold ch; first | rw [if_pos rfl, if_neg h] | rw [if_neg (by simp), if_neg h]
      have HB2 := Lib.hid hB
      generalize l.getD k 0 = c at *
      generalize hd : ch false c = d at *
      have HB := hB
      clear hB hd
      have g0 : (0 : Int) ≤ (k : Int) := by omega
      have g1 : (k : Int) < (s.size : Int) := by omega
      by_cases hin : 65 ≤ c.toNat ∧ c.toNat ≤ 90
      · have q1 : (65 : Int) ≤ (c.toNat : Int) := by omega
        have q2 : (c.toNat : Int) < 91 := by omega
        have q3 : (d.toNat : Int) = (c.toNat : Int) - 65 + 97 := by rw [hcn]; simp [hin]; try omega
        have q4 : (c.toNat : Int) - 65 + 97 = (d.toNat : Int) := q3.symm
        have q5 : IntKind.u8.wrap ((c.toNat : Int) - 65) = (c.toNat : Int) - 65 := by rw [IntKind.wrap_u8']; omega
        have q6 : IntKind.u8.wrap ((c.toNat : Int) - 65 + 97) = (d.toNat : Int) := by rw [IntKind.wrap_u8']; omega
        clear hcn q3 hin HCE HSM
        go_wp2
        clear q4 q5 q6
        go_roundw
        case rel => exact ⟨k + 1, by omega, by go_num, HST.out, hbw.setCell (Nat.le_refl _) _⟩
        case measure => simp [intOf]; omega
      · have HE : Hid (BB wr w.heap.size (cs false (k + 1) l)) := Lib.hid (by rw [HSM.out (HCE.out hin)]; exact HB)
        by_cases q1 : (65 : Int) ≤ (c.toNat : Int)
        · have q2 : ¬ (c.toNat : Int) < 91 := by omega
          clear hcn hin HCE HSM HST HB
          go_wp2
          go_roundw
          case rel => exact ⟨k + 1, by omega, by go_num, HE.out, hbw⟩
          case measure => simp [intOf]; omega
        · clear hcn hin HCE HSM HST HB
          go_wp2
          go_roundw
          case rel => exact ⟨k + 1, by omega, by go_num, HE.out, hbw⟩
          case measure => simp [intOf]; omega
    · obtain rfl : k = s.size := by omega
      have hbk := BB.back (c := cap) hB
      rw [cs_len, HL.out] at hbk
      have HR : Hid (cs false s.size l = l.map (ch false)) := Lib.hid (by rw [← HL.out, cs_all])
      rw [HR.out] at hbk
      go_wp2
      go_ret
      exact ⟨rfl, hbw⟩
theorem lower_any (s : ByteArray) (w : World) (hs : s.size ≤ 8796093022207) :
    Calls Tryd.prog 6 #[.string s] w fun e w' => e = .returned (.string ⟨((bl s).map (ch false)).toArray⟩) ∧ Below w.heap.size w w' := by
  have hx := Below.refl w.heap.size w
  have HC := Lib.hid fun W => change_Lower s W hs
  go_enter Tryd.func6, Tryd.ntmps6
  go_wp2_with (first | (go_at_call 17; ((with_reducible refine (HC.out _).mono ?_); rintro e wn ⟨rfl, hbn⟩; replace hx := below_call hx hbn; clear hbn)))
  go_ret
  exact ⟨rfl, hx⟩

set_option maxRecDepth 100000 in
set_option maxHeartbeats 4000000 in
theorem change_Upper (s : ByteArray) (w : World) (hs : s.size ≤ 8796093022207) :
    Calls Tryd.prog 17 #[.string s, .int .u8 97, .int .u8 65] w fun e w' => e = .returned (.string ⟨((bl s).map (ch true)).toArray⟩) ∧ Below w.heap.size w w' := by
  have hl := bl_len s
  have hb0 := below_bytes w s
  have hB0 := BB.new w s
  obtain ⟨l, hll⟩ : ∃ l, l = bl s := ⟨_, rfl⟩
  rw [← hll] at hB0 hl ⊢
  have HL := Lib.hid hl
  clear hll hl
  have kc : ∀ W : World, (convert 9 43 (.string s)).run Tryd.prog W = .ok (.slice (some ⟨W.heap.size, 0, none⟩) s.size (grownCap W s.size 0 5)) (Lib.bytesWorld W 5 s) := fun W => Lib.run_convert_string_bytes W _ _ _ s Tryd.underlying9 Tryd.underlying43 Tryd.underlying5
  go_enter Tryd.func17, Tryd.ntmps17
  go_wp2
  clear kc
  generalize grownCap w s.size 0 5 = cap at *
  generalize Lib.bytesWorld w 5 s = W1 at *
  go_loopw [14] (fun v14 wr => ∃ k : Nat, k ≤ s.size ∧ v14 = .int .i64 k ∧ BB wr w.heap.size (cs true k l) ∧ Below w.heap.size w wr) (fun v14 _ => s.size - (intOf v14).toNat)
  case atStart => exact ⟨0, Nat.zero_le _, rfl, by rw [cs_zero]; exact hB0, hb0⟩
  case round =>
    obtain ⟨k, hk, rfl, hB, hbw⟩ := hrel
    by_cases hlt : k < s.size
    · have hkl : k < l.length := by rw [HL.out]; exact hlt
      obtain ⟨c1, c2⟩ := BB.cell hB (j := k) (by rw [cs_len]; exact hkl)
      rw [cs_get _ hkl] at c1
      have HST := Lib.hid (BB.store hB (j := k) (by rw [cs_len]; exact hkl) (ch true (l.getD k 0)))
      rw [cs_set _ hkl] at HST
      have HSM := Lib.hid (cs_same true hkl)
      have hcn := ch_toNat true (l.getD k 0)
      have hci := UInt8.toNat_lt (l.getD k 0)
      have HCE : Hid (¬ (97 ≤ (l.getD k 0).toNat ∧ (l.getD k 0).toNat ≤ 122) → ch true (l.getD k 0) = l.getD k 0) := Lib.hid fun h => by unfold ch; first | rw [if_pos rfl, if_neg h] | rw [if_neg (by simp), if_neg h]
      have HB2 := Lib.hid hB
      generalize l.getD k 0 = c at *
      generalize hd : ch true c = d at *
      have HB := hB
      clear hB hd
      have g0 : (0 : Int) ≤ (k : Int) := by omega
      have g1 : (k : Int) < (s.size : Int) := by omega
      by_cases hin : 97 ≤ c.toNat ∧ c.toNat ≤ 122
      · have q1 : (97 : Int) ≤ (c.toNat : Int) := by omega
        have q2 : (c.toNat : Int) < 123 := by omega
        have q3 : (d.toNat : Int) = (c.toNat : Int) - 97 + 65 := by rw [hcn]; simp [hin]; try omega
        have q4 : (c.toNat : Int) - 97 + 65 = (d.toNat : Int) := q3.symm
        have q5 : IntKind.u8.wrap ((c.toNat : Int) - 97) = (c.toNat : Int) - 97 := by rw [IntKind.wrap_u8']; omega
        have q6 : IntKind.u8.wrap ((c.toNat : Int) - 97 + 65) = (d.toNat : Int) := by rw [IntKind.wrap_u8']; omega
        clear hcn q3 hin HCE HSM
        go_wp2
        clear q4 q5 q6
        go_roundw
        case rel => exact ⟨k + 1, by omega, by go_num, HST.out, hbw.setCell (Nat.le_refl _) _⟩
        case measure => simp [intOf]; omega
      · have HE : Hid (BB wr w.heap.size (cs true (k + 1) l)) := Lib.hid (by rw [HSM.out (HCE.out hin)]; exact HB)
        by_cases q1 : (97 : Int) ≤ (c.toNat : Int)
        · have q2 : ¬ (c.toNat : Int) < 123 := by omega
          clear hcn hin HCE HSM HST HB
          go_wp2
          go_roundw
          case rel => exact ⟨k + 1, by omega, by go_num, HE.out, hbw⟩
          case measure => simp [intOf]; omega
        · clear hcn hin HCE HSM HST HB
          go_wp2
          go_roundw
          case rel => exact ⟨k + 1, by omega, by go_num, HE.out, hbw⟩
          case measure => simp [intOf]; omega
    · obtain rfl : k = s.size := by omega
      have hbk := BB.back (c := cap) hB
      rw [cs_len, HL.out] at hbk
      have HR : Hid (cs true s.size l = l.map (ch true)) := Lib.hid (by rw [← HL.out, cs_all])
      rw [HR.out] at hbk
      go_wp2
      go_ret
      exact ⟨rfl, hbw⟩
theorem upper_any (s : ByteArray) (w : World) (hs : s.size ≤ 8796093022207) :
    Calls Tryd.prog 8 #[.string s] w fun e w' => e = .returned (.string ⟨((bl s).map (ch true)).toArray⟩) ∧ Below w.heap.size w w' := by
  have hx := Below.refl w.heap.size w
  have HC := Lib.hid fun W => change_Upper s W hs
  go_enter Tryd.func8, Tryd.ntmps8
  go_wp2_with (first | (go_at_call 17; ((with_reducible refine (HC.out _).mono ?_); rintro e wn ⟨rfl, hbn⟩; replace hx := below_call hx hbn; clear hbn)))
  go_ret
  exact ⟨rfl, hx⟩

end Go.Proofs.YtiggholdcebjjaaDoor
