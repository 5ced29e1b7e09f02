/- The walks of title.fold, title.spaces, title.clean. -/
import Derived.Test.YtobgnncdldfkkaaDoorQP1
import Derived.Test.YtobgnncdldfkkaaDoorWords2
import Derived.Test.YtobgnncdldfkkaaDoorShelf
import Derived.Lib.ConvBytes
import Derived.Laws.IdiomStrings
import Derived.Deep.RegionHeld3
import Derived.RegionTactic
import Derived.StillTailTactics
import Derived.ChangeAlike
namespace Go.Proofs.YtobgnncdldfkkaaDoor
open Go.RowKit
set_option linter.unusedSimpArgs false
set_option linter.unusedVariables false

theorem u8_eq {a c : UInt8} : ((a.toNat : Int) == (c.toNat : Int)) = decide (a = c) := by
  by_cases h : a = c
  · subst h; simp
  · have : ¬ a.toNat = c.toNat := fun e => h (UInt8.toNat_inj.1 e)
    simp [h]
    omega
/-- block g is the row of a conversion and holds the bytes l -/
def BB (w : World) (g : Nat) (l : List UInt8) : Prop := ∃ cv : Array Value, w.heap[g]? = some (.cells cv 5 (cv.size, cv.size + 1)) ∧ cv.toList.take l.length = bs l ∧ l.length ≤ cv.size
theorem BB.new (w : World) (s : ByteArray) : BB (Lib.bytesWorld w 5 s) w.heap.size (bl s) := by
  refine ⟨_, Lib.bytesWorld_at_new w _ s, ?_, ?_⟩
  · unfold Lib.bytesCells
    rw [Array.toList_append, List.take_append_of_le_length (by simp)]
    rw [List.take_of_length_le (by simp)]
    simp [bs]
  · unfold Lib.bytesCells
    simp
theorem below_bytes (w : World) (s : ByteArray) : Below w.heap.size w (Lib.bytesWorld w 5 s) := by
  refine ⟨rfl, rfl, rfl, by rw [Lib.bytesWorld_size]; omega, fun k hk => Lib.bytesWorld_at_old w _ s k hk⟩
theorem BB.cell {w : World} {g j : Nat} {l : List UInt8} (h : BB w g l) (hj : j < l.length) : w.cell? ⟨g, j, none⟩ = some (.int .u8 ((l.getD j 0).toNat : Int)) ∧ w.frozen? ⟨g, j, none⟩ = false := by
  obtain ⟨cv, h1, h2, h3⟩ := h
  constructor
  · rw [cell_of_row w g j cv _ _ h1]
    have e : (bs l)[j]? = some (.int .u8 ((l.getD j 0).toNat : Int)) := by simp [bs, List.getD, List.getElem?_eq_getElem hj]
    rw [← h2, List.getElem?_take, if_pos hj] at e
    simpa using e
  · simp only [World.frozen?, h1]
    simp
    omega
theorem BB.store {w : World} {g j : Nat} {l : List UInt8} (h : BB w g l) (hj : j < l.length) (b : UInt8) : BB (w.setCell ⟨g, j, none⟩ (.int .u8 (b.toNat : Int))) g (l.set j b) := by
  obtain ⟨cv, h1, h2, h3⟩ := h
  refine ⟨cv.setIfInBounds j (.int .u8 (b.toNat : Int)), ?_, ?_, by rw [List.length_set]; simpa using h3⟩
  · simp [World.setCell, Array.getElem?_modify, h1]
  · rw [List.length_set, Array.toList_setIfInBounds, List.take_set, h2]
    simp [bs, List.map_set]
theorem BB.back {w : World} {g c : Nat} {l : List UInt8} (h : BB w g l) : (convert 89 9 (.slice (some ⟨g, 0, none⟩) l.length c)).run Tryd.prog w = .ok (.string ⟨l.toArray⟩) w := by
  refine run_convert_bytes_back w _ _ 5 ⟨g, 0, none⟩ c l Tryd.underlying89 Tryd.underlying5 Tryd.underlying9 (fun j hj => ?_)
  have e : (⟨g, 0, none⟩ : Addr).add j = ⟨g, j, none⟩ := by
    unfold Addr.add
    by_cases h0 : j = 0 <;> simp [h0]
  rw [e, (BB.cell h hj).1]
  simp [List.getD, List.getElem?_eq_getElem hj]
theorem BB.call {w w' : World} {g : Nat} {l : List UInt8} (h : BB w g l) (hb : Below w.heap.size w w') : BB w' g l := by
  obtain ⟨cv, h1, h2, h3⟩ := h
  exact ⟨cv, heap_call hb h1, h2, h3⟩


set_option maxRecDepth 100000 in
set_option maxHeartbeats 4000000 in
theorem fold_any (s : ByteArray) (w : World) (hs : s.size ≤ 8796093022207) :
    Calls Tryd.prog 60 #[.string s] w fun e w' => e = .returned (.string (bB ((bl s).map ch))) ∧ Below w.heap.size w w' := by
  have hl := bl_len s
  have hb0 := below_bytes w s
  have hB0 := BB.new w s
  obtain ⟨l, hll⟩ : ∃ l, l = bl s := ⟨_, rfl⟩
  rw [← hll] at hB0 hl ⊢
  have HL := Lib.hid hl
  clear hll hl
  have kc : ∀ W : World, (convert 9 89 (.string s)).run Tryd.prog W = .ok (.slice (some ⟨W.heap.size, 0, none⟩) s.size (grownCap W s.size 0 5)) (Lib.bytesWorld W 5 s) := fun W => Lib.run_convert_string_bytes W _ _ _ s Tryd.underlying9 Tryd.underlying89 Tryd.underlying5
  go_enter Tryd.func60, Tryd.ntmps60
  go_wp2
  clear kc
  generalize grownCap w s.size 0 5 = cap at *
  generalize Lib.bytesWorld w 5 s = W1 at *
  go_loopw [10] (fun v14 wr => ∃ k : Nat, k ≤ s.size ∧ v14 = .int .i64 k ∧ BB wr w.heap.size (cs k l) ∧ Below w.heap.size w wr) (fun v14 _ => s.size - (intOf v14).toNat)
  case atStart => exact ⟨0, Nat.zero_le _, rfl, by rw [cs_zero]; exact hB0, hb0⟩
  case round =>
    obtain ⟨k, hk, rfl, hB, hbw⟩ := hrel
    by_cases hlt : k < s.size
    · have hkl : k < l.length := by rw [HL.out]; exact hlt
      obtain ⟨c1, c2⟩ := BB.cell hB (j := k) (by rw [cs_len]; exact hkl)
      rw [cs_get hkl] at c1
      have HST := Lib.hid (BB.store hB (j := k) (by rw [cs_len]; exact hkl) (ch (l.getD k 0)))
      rw [cs_set hkl] at HST
      have HSM := Lib.hid (cs_same hkl)
      have hcn := ch_toNat (l.getD k 0)
      have hci := UInt8.toNat_lt (l.getD k 0)
      have HCE : Hid (¬ (65 ≤ (l.getD k 0).toNat ∧ (l.getD k 0).toNat ≤ 90) → ch (l.getD k 0) = l.getD k 0) := Lib.hid fun h => by unfold ch; rw [if_neg h]
      have HB2 := Lib.hid hB
      generalize l.getD k 0 = c at *
      generalize hd : ch c = d at *
      have HB := hB
      clear hB hd
      have g0 : (0 : Int) ≤ (k : Int) := by omega
      have g1 : (k : Int) < (s.size : Int) := by omega
      by_cases hin : 65 ≤ c.toNat ∧ c.toNat ≤ 90
      · have q1 : (65 : Int) ≤ (c.toNat : Int) := by omega
        have q2 : (c.toNat : Int) ≤ 90 := by omega
        have q1n := hin.1
        have q2n := hin.2
        have q3 : (d.toNat : Int) = (c.toNat : Int) + 32 := by rw [hcn]; simp [hin]
        have q4 : (c.toNat : Int) + 32 = (d.toNat : Int) := q3.symm
        have q6 : IntKind.u8.wrap ((c.toNat : Int) + 32) = (d.toNat : Int) := by rw [IntKind.wrap_u8']; omega
        clear hcn q3 hin HCE HSM
        go_wp2
        clear q4 q6
        go_roundw
        case rel => exact ⟨k + 1, by omega, by go_num, HST.out, hbw.setCell (Nat.le_refl _) _⟩
        case measure => simp [intOf]; omega
      · have HE : Hid (BB wr w.heap.size (cs (k + 1) l)) := Lib.hid (by rw [HSM.out (HCE.out hin)]; exact HB)
        by_cases q1 : (65 : Int) ≤ (c.toNat : Int)
        · have q2 : ¬ (c.toNat : Int) ≤ 90 := by omega
          have q2n : ¬ c.toNat ≤ 90 := by omega
          have q1n : 65 ≤ c.toNat := by omega
          clear hcn hin HCE HSM HST HB
          go_wp2
          go_roundw
          case rel => exact ⟨k + 1, by omega, by go_num, HE.out, hbw⟩
          case measure => simp [intOf]; omega
        · have q1n : ¬ 65 ≤ c.toNat := by omega
          clear hcn hin HCE HSM HST HB
          go_wp2
          go_roundw
          case rel => exact ⟨k + 1, by omega, by go_num, HE.out, hbw⟩
          case measure => simp [intOf]; omega
    · obtain rfl : k = s.size := by omega
      have hbk := BB.back (c := cap) hB
      rw [cs_len, HL.out] at hbk
      have HR : Hid (cs s.size l = l.map ch) := Lib.hid (by rw [← HL.out, cs_all])
      rw [HR.out] at hbk
      go_wp2
      go_ret
      exact ⟨rfl, hbw⟩

/-- the six names, as they are handed back -/
def namesV : Array Value := #[.string ⟨#[]⟩, .string ⟨#[84, 97, 108, 107]⟩, .string ⟨#[85, 115, 101, 114]⟩, .string ⟨#[84, 101, 109, 112, 108, 97, 116, 101]⟩, .string ⟨#[67, 97, 116, 101, 103, 111, 114, 121]⟩, .string ⟨#[80, 114, 111, 106, 101, 99, 116]⟩]
theorem spaces_any (w : World) : Calls Tryd.prog 62 #[] w fun e w' => e = .returned (.agg namesV) ∧ Below w.heap.size w w' := by
  go_enter Tryd.func62, Tryd.ntmps62
  go_wp2
  refine bodyPost_ret (v := .agg namesV) ?_ rfl ⟨rfl, ?_⟩
  · simp [results, Tryd.results62, go_sem, namesV]
  · (refine bel_out ?_; (focus (repeat' first | (with_reducible refine bel_refl ?_) | with_reducible assumption | with_reducible refine bel_drew ?_ | with_reducible refine bel_drewN _ ?_ | with_reducible refine bel_alloc _ ?_ | with_reducible refine bel_set ?_ _ ?_ | (with_reducible apply bel_call; with_reducible assumption) | (with_reducible apply bel_owg; with_reducible assumption; (focus omega)) | with_reducible exact Nat.le_refl _ | omega | (simp; done) | (simp; omega))))

theorem badAt_eq {s : ByteArray} {k : Nat} (h : k < s.size) : badAt s k = (badC s[k] || (s[k] == 32 && decide (0 < k) && s[k - 1] == 32)) := by simp [badAt, h]
theorem cln_next {s : ByteArray} {k : Nat} (HB : ∀ j, j < k → badAt s j = false) (h : badAt s k = false) : ∀ j, j < k + 1 → badAt s j = false := fun j hj => by
  rcases Nat.lt_or_ge j k with h1 | h1
  · exact HB j h1
  · obtain rfl : j = k := by omega
    exact h
set_option maxRecDepth 100000 in
set_option maxHeartbeats 4000000 in
theorem clean_any (s : ByteArray) (w : World) (hs : s.size ≤ 1000) :
    Calls Tryd.prog 53 #[.string s] w fun e w' => e = .returned (.bool (cln s)) ∧ Below w.heap.size w w' := by
  go_enter Tryd.func53, Tryd.ntmps53
  go_wp2
  go_loopw [3] (fun v wr => ∃ k : Nat, k ≤ s.size ∧ v = .int .i64 k ∧ Below w.heap.size w wr ∧ Hid (∀ j, j < k → badAt s j = false)) (fun v _ => s.size - (intOf v).toNat)
  case atStart => exact ⟨0, Nat.zero_le _, rfl, Below.refl _ _, Lib.hid fun j h => by omega⟩
  case round =>
    obtain ⟨k, hk, rfl, hbw, HB⟩ := hrel
    by_cases hlt : k < s.size
    · have HC : Hid (∀ W : World, Calls Tryd.prog 57 #[.string ⟨#[60, 62, 91, 93, 123, 125, 124, 35, 95]⟩, .int .u8 (s[k].toNat : Int)] W fun e w' => e = .returned (.int .i64 (Lib.indexByte setB s[k].toNat.toUInt8)) ∧ w' = W) := Lib.hid fun W => Tryd.strings_IndexByte ⟨#[60, 62, 91, 93, 123, 125, 124, 35, 95]⟩ (s[k].toNat : Int) W
      have hS := set_byte s[k]
      have hE := badAt_eq hlt
      unfold badC at hE
      generalize Lib.indexByte setB s[k].toNat.toUInt8 = i at HC hS
      have z0 : (0 : Int) ≤ (k : Int) := by omega
      have z1 : (k : Int) < (s.size : Int) := by omega
      by_cases e1 : s[k].toNat < 32
      · have HR : Hid (cln s = false) := Lib.hid (cln_bad hlt (by rw [hE]; simp [e1]))
        have q1 : (s[k].toNat : Int) < 32 := by omega
        clear HC hS hE HB
        go_wp2
        go_ret
        exact ⟨by rw [HR.out]; rfl, hbw⟩
      have q1 : ¬ (s[k].toNat : Int) < 32 := by omega
      by_cases e2 : s[k] = 127
      · have HR : Hid (cln s = false) := Lib.hid (cln_bad hlt (by rw [hE]; simp [e2]))
        have q2 : ((s[k].toNat : Int) == 127) = true := by rw [e2]; rfl
        clear HC hS hE HB e2
        go_wp2
        go_ret
        exact ⟨by rw [HR.out]; rfl, hbw⟩
      have q2 : ((s[k].toNat : Int) == 127) = false := (@u8_eq s[k] 127).trans (decide_eq_false e2)
      by_cases e3 : 0 ≤ i
      · have HR : Hid (cln s = false) := Lib.hid (cln_bad hlt (by rw [hE, hS.1 e3]; simp))
        clear hS hE HB e2
        go_wp2_with (go_at_call 57; refine (HC.out _).mono ?_; rintro e w2 ⟨rfl, hwn⟩; obtain rfl := hwn.symm)
        go_ret
        exact ⟨by rw [HR.out]; rfl, hbw⟩
      have e3' : setB.contains s[k] = false := by
        cases e : setB.contains s[k] with
        | false => rfl
        | true => exact absurd (hS.2 e) e3
      have e2' : (s[k] == 127) = false := by simpa using e2
      rw [e3', e2', decide_eq_false e1, Bool.false_or, Bool.false_or, Bool.false_or] at hE
      clear hS e2' e3' e2
      by_cases e4 : s[k] = 32
      · have q4 : ((s[k].toNat : Int) == 32) = true := by rw [e4]; rfl
        by_cases e5 : 0 < k
        · have q5 : (0 : Int) < (k : Int) := by omega
          have z2 : (k : Int) - 1 < (s.size : Int) := by omega
          have z3 : (0 : Int) ≤ (k : Int) - 1 := by omega
          have z4 : ((k : Int) - 1).toNat = k - 1 := by omega
          by_cases e6 : s[k - 1] = 32
          · have HR : Hid (cln s = false) := Lib.hid (cln_bad hlt (by rw [hE]; simp [e4, e5, e6]))
            have q6 : ((s[k - 1].toNat : Int) == 32) = true := by rw [e6]; rfl
            clear hE HB e4 e6
            go_wp2_with (go_at_call 57; refine (HC.out _).mono ?_; rintro e w2 ⟨rfl, hwn⟩; obtain rfl := hwn.symm)
            go_ret
            exact ⟨by rw [HR.out]; rfl, hbw⟩
          · have HN : Hid (∀ j, j < k + 1 → badAt s j = false) := Lib.hid (cln_next HB.out (by rw [hE]; simp [e6]))
            have q6 : ((s[k - 1].toNat : Int) == 32) = false := (@u8_eq s[k - 1] 32).trans (decide_eq_false e6)
            clear hE HB e4 e6
            go_wp2_with (go_at_call 57; refine (HC.out _).mono ?_; rintro e w2 ⟨rfl, hwn⟩; obtain rfl := hwn.symm)
            go_roundw
            case rel => exact ⟨k + 1, by omega, by go_num, hbw, HN⟩
            case measure => simp [intOf]; omega
        · have HN : Hid (∀ j, j < k + 1 → badAt s j = false) := Lib.hid (cln_next HB.out (by rw [hE]; simp [e5]))
          have q5 : ¬ (0 : Int) < (k : Int) := by omega
          clear hE HB e4
          go_wp2_with (go_at_call 57; refine (HC.out _).mono ?_; rintro e w2 ⟨rfl, hwn⟩; obtain rfl := hwn.symm)
          go_roundw
          case rel => exact ⟨k + 1, by omega, by go_num, hbw, HN⟩
          case measure => simp [intOf]; omega
      · have HN : Hid (∀ j, j < k + 1 → badAt s j = false) := Lib.hid (cln_next HB.out (by rw [hE]; simp [e4]))
        have q4 : ((s[k].toNat : Int) == 32) = false := (@u8_eq s[k] 32).trans (decide_eq_false e4)
        clear hE HB e4
        go_wp2_with (go_at_call 57; refine (HC.out _).mono ?_; rintro e w2 ⟨rfl, hwn⟩; obtain rfl := hwn.symm)
        go_roundw
        case rel => exact ⟨k + 1, by omega, by go_num, hbw, HN⟩
        case measure => simp [intOf]; omega
    · obtain rfl : k = s.size := by omega
      have HR : Hid (cln s = true) := Lib.hid (cln_good HB.out)
      go_wp2
      go_ret
      exact ⟨by rw [HR.out]; rfl, hbw⟩
end Go.Proofs.YtobgnncdldfkkaaDoor
