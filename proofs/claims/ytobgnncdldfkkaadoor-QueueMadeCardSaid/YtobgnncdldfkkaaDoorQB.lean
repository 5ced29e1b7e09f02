/- The walks of slices.IndexFunc and slices.ContainsFunc at jobs. -/
import Derived.Test.YtobgnncdldfkkaaDoorQA
namespace Go.Proofs.YtobgnncdldfkkaaDoor
open Go.RowKit
set_option linter.unusedSimpArgs false
set_option linter.unusedVariables false

/-- the first place of a list where P holds, or -1 -/
def fIdx (P : Jb → Bool) (L : List Jb) : Int := match L.findIdx? P with | some i => i | none => -1
theorem fIdx_hit {P : Jb → Bool} {L : List Jb} {k : Nat} (hk : k < L.length) (h : P (L.getD k jb0) = true) (hb : ∀ j, j < k → P (L.getD j jb0) = false) : fIdx P L = k := by
  unfold fIdx
  have : L.findIdx? P = some k := by
    rw [List.findIdx?_eq_some_iff_getElem]
    refine ⟨hk, by simpa [List.getD, List.getElem?_eq_getElem hk] using h, fun j hj => ?_⟩
    have hjl : j < L.length := by omega
    simpa [List.getD, List.getElem?_eq_getElem hjl] using hb j hj
  rw [this]
theorem fIdx_miss {P : Jb → Bool} {L : List Jb} (hb : ∀ j, j < L.length → P (L.getD j jb0) = false) : fIdx P L = -1 := by
  unfold fIdx
  have : L.findIdx? P = none := by
    rw [List.findIdx?_eq_none_iff]
    intro x hx
    obtain ⟨j, hj, rfl⟩ := List.mem_iff_getElem.1 hx
    simpa [List.getD, List.getElem?_eq_getElem hj] using hb j hj
  rw [this]

set_option maxRecDepth 100000 in
set_option maxHeartbeats 4000000 in
theorem indexfunc_bad (A : Option Addr) (n c : Nat) (L : List Jb) (m : Int) (w : World) (hr : RdR RJ 4 w A n c L) (hm : Hm m w) :
    Calls Tryd.prog 38 #[.slice A n c, .func (.func 36) #[] #[]] w fun e w' => e = .returned (.int .i64 (fIdx (fun a => !jv a) L)) ∧ Below w.heap.size w w' := by
  have hmax : n ≤ maxLen := Nat.le_trans hr.cap hr.max
  unfold maxLen at hmax
  have HF : Hid (∀ (a : Jb) (W : World), Hm m W → Calls Tryd.prog 36 #[a.val] W fun e w' => e = .returned (.bool ((fun a => !jv a) a)) ∧ Below W.heap.size W w') := Lib.hid fun (a : Jb) (W : World) (h : Hm m W) => bad_any a m W h
  have HM := Lib.hid hm
  have HO := Lib.hid fun (h : 0 < n) => RdJ.opened hr h
  have HNL := Lib.hid hr.len
  generalize (fun a : Jb => !jv a) = P at *
  clear hr
  go_enter Tryd.func38, Tryd.ntmps38
  go_wp2
  go_loopw [8] (fun v wr => ∃ k : Nat, k ≤ n ∧ v = .int .i64 k ∧ Below w.heap.size w wr ∧ Hid (∀ j, j < k → P (L.getD j jb0) = false)) (fun v _ => n - (intOf v).toNat)
  case atStart => exact ⟨0, Nat.zero_le _, rfl, Below.refl _ _, Lib.hid fun j h => by omega⟩
  case round =>
    obtain ⟨k, hk, rfl, hbw, HB⟩ := hrel
    by_cases hlt : k < n
    · obtain ⟨b, off, rfl, hb, hc⟩ := HO.out (by omega)
      obtain ⟨x1, x2, x3, x4⟩ := hc k hlt
      have c1 := (hbw.cell (p := ⟨b, off + k * 4, none⟩) hb).trans x1
      have c2 := (hbw.cell (p := ⟨b, off + k * 4 + 1, none⟩) hb).trans x2
      have c3 := (hbw.cell (p := ⟨b, off + k * 4 + 2, none⟩) hb).trans x3
      have c4 := (hbw.cell (p := ⟨b, off + k * 4 + 3, none⟩) hb).trans x4
      have HF2 := Lib.hid fun W => HF.out (L.getD k jb0) W
      clear hc x1 x2 x3 x4 HO
      have z0 : (0 : Int) ≤ (k : Int) := by omega
      have z1 : (k : Int) < (n : Int) := by omega
      have HB1 : Hid (P (L.getD k jb0) = true → fIdx P L = k) := Lib.hid fun h => fIdx_hit (by rw [← HNL.out]; exact hlt) h HB.out
      have HB2 : Hid (P (L.getD k jb0) = false → ∀ j, j < k + 1 → P (L.getD j jb0) = false) := Lib.hid fun h j hj => by
        rcases Nat.lt_or_ge j k with h1 | h1
        · exact HB.out j h1
        · obtain rfl : j = k := by omega
          exact h
      generalize hP : P (L.getD k jb0) = r at HF2 HB1 HB2
      clear hP
      generalize L.getD k jb0 = a at *
      obtain ⟨st, us, sp, nm⟩ := a
      cases r with
      | true =>
        have HBt := Lib.hid (HB1.out rfl)
        clear HB1 HB2
        go_wp2_with (go_at_call 36; refine (HF2.out _ (HM.out.below hbw)).mono ?_; rintro e w1 ⟨rfl, hb1⟩)
        go_ret
        exact ⟨by rw [HBt.out]; rfl, below_call hbw hb1⟩
      | false =>
        have HBt := Lib.hid (HB2.out rfl)
        clear HB1 HB2
        go_wp2_with (go_at_call 36; refine (HF2.out _ (HM.out.below hbw)).mono ?_; rintro e w1 ⟨rfl, hb1⟩)
        go_roundw
        case rel => exact ⟨k + 1, by omega, by go_num, below_call hbw hb1, HBt⟩
        case measure => simp [intOf]; omega
    · obtain rfl : k = n := by omega
      have HR : Hid (fIdx P L = -1) := Lib.hid (fIdx_miss (by rw [← HNL.out]; exact HB.out))
      go_wp2
      go_ret
      exact ⟨by rw [HR.out]; rfl, hbw⟩
theorem fIdx_bad (L : List Jb) : (fIdx (fun a => !jv a) L < 0 ∧ L.any (fun a => !jv a) = false) ∨ (0 ≤ fIdx (fun a => !jv a) L ∧ L.any (fun a => !jv a) = true) := by
  unfold fIdx
  cases e : L.findIdx? (fun a => !jv a) with
  | none =>
    left
    refine ⟨by decide, ?_⟩
    rw [List.any_eq_false]
    intro x hx
    have := List.findIdx?_eq_none_iff.1 e x hx
    simp at this ⊢
    exact this
  | some i =>
    right
    refine ⟨by simp, ?_⟩
    obtain ⟨h1, h2, _⟩ := List.findIdx?_eq_some_iff_getElem.1 e
    rw [List.any_eq_true]
    exact ⟨L[i], List.getElem_mem h1, h2⟩
theorem containsfunc_bad (A : Option Addr) (n c : Nat) (L : List Jb) (m : Int) (w : World) (hr : RdR RJ 4 w A n c L) (hm : Hm m w) :
    Calls Tryd.prog 35 #[.slice A n c, .func (.func 36) #[] #[]] w fun e w' => e = .returned (.bool (L.any (fun a => !jv a))) ∧ Below w.heap.size w w' := by
  have HI := Lib.hid (indexfunc_bad A n c L m w hr hm)
  have hx := fIdx_bad L
  generalize fIdx (fun a => !jv a) L = i at *
  generalize L.any (fun a => !jv a) = r at *
  rcases hx with ⟨h1, rfl⟩ | ⟨h1, rfl⟩
  · have hd : decide (0 ≤ i) = false := by simpa using h1
    go_enter Tryd.func35, Tryd.ntmps35
    go_wp2_with (go_at_call 38; refine HI.out.mono ?_; rintro e w1 ⟨rfl, hb1⟩)
    go_ret
    exact ⟨by rfl, hb1⟩
  · have hd : decide (0 ≤ i) = true := by simpa using h1
    go_enter Tryd.func35, Tryd.ntmps35
    go_wp2_with (go_at_call 38; refine HI.out.mono ?_; rintro e w1 ⟨rfl, hb1⟩)
    go_ret
    exact ⟨by rfl, hb1⟩

set_option maxRecDepth 100000 in
set_option maxHeartbeats 4000000 in
theorem indexfunc_early (A : Option Addr) (n c : Nat) (L : List Jb) (m : Int) (w : World) (hr : RdR RJ 4 w A n c L) (hm : Hm m w) :
    Calls Tryd.prog 38 #[.slice A n c, .func (.func 39) #[] #[]] w fun e w' => e = .returned (.int .i64 (fIdx (fun a => je a) L)) ∧ Below w.heap.size w w' := by
  have hmax : n ≤ maxLen := Nat.le_trans hr.cap hr.max
  unfold maxLen at hmax
  have HF : Hid (∀ (a : Jb) (W : World), Hm m W → Calls Tryd.prog 39 #[a.val] W fun e w' => e = .returned (.bool ((fun a => je a) a)) ∧ Below W.heap.size W w') := Lib.hid fun (a : Jb) (W : World) (h : Hm m W) => early_any a W
  have HM := Lib.hid hm
  have HO := Lib.hid fun (h : 0 < n) => RdJ.opened hr h
  have HNL := Lib.hid hr.len
  generalize (fun a : Jb => je a) = P at *
  clear hr
  go_enter Tryd.func38, Tryd.ntmps38
  go_wp2
  go_loopw [8] (fun v wr => ∃ k : Nat, k ≤ n ∧ v = .int .i64 k ∧ Below w.heap.size w wr ∧ Hid (∀ j, j < k → P (L.getD j jb0) = false)) (fun v _ => n - (intOf v).toNat)
  case atStart => exact ⟨0, Nat.zero_le _, rfl, Below.refl _ _, Lib.hid fun j h => by omega⟩
  case round =>
    obtain ⟨k, hk, rfl, hbw, HB⟩ := hrel
    by_cases hlt : k < n
    · obtain ⟨b, off, rfl, hb, hc⟩ := HO.out (by omega)
      obtain ⟨x1, x2, x3, x4⟩ := hc k hlt
      have c1 := (hbw.cell (p := ⟨b, off + k * 4, none⟩) hb).trans x1
      have c2 := (hbw.cell (p := ⟨b, off + k * 4 + 1, none⟩) hb).trans x2
      have c3 := (hbw.cell (p := ⟨b, off + k * 4 + 2, none⟩) hb).trans x3
      have c4 := (hbw.cell (p := ⟨b, off + k * 4 + 3, none⟩) hb).trans x4
      have HF2 := Lib.hid fun W => HF.out (L.getD k jb0) W
      clear hc x1 x2 x3 x4 HO
      have z0 : (0 : Int) ≤ (k : Int) := by omega
      have z1 : (k : Int) < (n : Int) := by omega
      have HB1 : Hid (P (L.getD k jb0) = true → fIdx P L = k) := Lib.hid fun h => fIdx_hit (by rw [← HNL.out]; exact hlt) h HB.out
      have HB2 : Hid (P (L.getD k jb0) = false → ∀ j, j < k + 1 → P (L.getD j jb0) = false) := Lib.hid fun h j hj => by
        rcases Nat.lt_or_ge j k with h1 | h1
        · exact HB.out j h1
        · obtain rfl : j = k := by omega
          exact h
      generalize hP : P (L.getD k jb0) = r at HF2 HB1 HB2
      clear hP
      generalize L.getD k jb0 = a at *
      obtain ⟨st, us, sp, nm⟩ := a
      cases r with
      | true =>
        have HBt := Lib.hid (HB1.out rfl)
        clear HB1 HB2
        go_wp2_with (go_at_call 39; refine (HF2.out _ (HM.out.below hbw)).mono ?_; rintro e w1 ⟨rfl, hb1⟩)
        go_ret
        exact ⟨by rw [HBt.out]; rfl, below_call hbw hb1⟩
      | false =>
        have HBt := Lib.hid (HB2.out rfl)
        clear HB1 HB2
        go_wp2_with (go_at_call 39; refine (HF2.out _ (HM.out.below hbw)).mono ?_; rintro e w1 ⟨rfl, hb1⟩)
        go_roundw
        case rel => exact ⟨k + 1, by omega, by go_num, below_call hbw hb1, HBt⟩
        case measure => simp [intOf]; omega
    · obtain rfl : k = n := by omega
      have HR : Hid (fIdx P L = -1) := Lib.hid (fIdx_miss (by rw [← HNL.out]; exact HB.out))
      go_wp2
      go_ret
      exact ⟨by rw [HR.out]; rfl, hbw⟩
theorem fIdx_early (L : List Jb) : (fIdx (fun a => je a) L < 0 ∧ L.any (fun a => je a) = false) ∨ (0 ≤ fIdx (fun a => je a) L ∧ L.any (fun a => je a) = true) := by
  unfold fIdx
  cases e : L.findIdx? (fun a => je a) with
  | none =>
    left
    refine ⟨by decide, ?_⟩
    rw [List.any_eq_false]
    intro x hx
    have := List.findIdx?_eq_none_iff.1 e x hx
    simp at this ⊢
    exact this
  | some i =>
    right
    refine ⟨by simp, ?_⟩
    obtain ⟨h1, h2, _⟩ := List.findIdx?_eq_some_iff_getElem.1 e
    rw [List.any_eq_true]
    exact ⟨L[i], List.getElem_mem h1, h2⟩
theorem containsfunc_early (A : Option Addr) (n c : Nat) (L : List Jb) (m : Int) (w : World) (hr : RdR RJ 4 w A n c L) (hm : Hm m w) :
    Calls Tryd.prog 35 #[.slice A n c, .func (.func 39) #[] #[]] w fun e w' => e = .returned (.bool (L.any (fun a => je a))) ∧ Below w.heap.size w w' := by
  have HI := Lib.hid (indexfunc_early A n c L m w hr hm)
  have hx := fIdx_early L
  generalize fIdx (fun a => je a) L = i at *
  generalize L.any (fun a => je a) = r at *
  rcases hx with ⟨h1, rfl⟩ | ⟨h1, rfl⟩
  · have hd : decide (0 ≤ i) = false := by simpa using h1
    go_enter Tryd.func35, Tryd.ntmps35
    go_wp2_with (go_at_call 38; refine HI.out.mono ?_; rintro e w1 ⟨rfl, hb1⟩)
    go_ret
    exact ⟨by rfl, hb1⟩
  · have hd : decide (0 ≤ i) = true := by simpa using h1
    go_enter Tryd.func35, Tryd.ntmps35
    go_wp2_with (go_at_call 38; refine HI.out.mono ?_; rintro e w1 ⟨rfl, hb1⟩)
    go_ret
    exact ⟨by rfl, hb1⟩
end Go.Proofs.YtobgnncdldfkkaaDoor
