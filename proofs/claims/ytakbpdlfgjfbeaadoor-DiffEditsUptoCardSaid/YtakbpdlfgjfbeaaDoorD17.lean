/- The walk of DiffExact. -/
import Derived.Test.YtakbpdlfgjfbeaaDoorD16
import Derived.Test.YtakbpdlfgjfbeaaDoorD6
namespace Go.Proofs.YtakbpdlfgjfbeaaDoor
open Go.RowKit
set_option linter.unusedSimpArgs false
set_option linter.unusedVariables false

/-- both differences, one behind the other, of texts that are given -/
def DiffOk (m : Int) (a b : ByteArray) : Prop := ∀ W : World, W.cell? ⟨0, 0, none⟩ = some (.int .i64 m) → Calls Tryd.prog 14 #[.string a, .string b] W (RRead W (EI (edits (LN a) (LN b))))
def RDiffOk (a b : ByteArray) : Prop := ∀ W : World, Calls Tryd.prog 15 #[.string a, .string b] W (RRead W (EI (edits (LN a) (LN b))))
def KnownOk (m : Int) : Prop := ∀ W : World, W.cell? ⟨0, 0, none⟩ = some (.int .i64 m) → Calls Tryd.prog 11 #[] W fun e w' => e = .returned (.bool true) ∧ Below W.heap.size W w'
theorem diffOk (m : Int) (a b : ByteArray) (ha : a.size ≤ 1000) (hb : b.size ≤ 1000) : DiffOk m a b := fun W h => diff_any a b m W h ha hb
theorem rdiffOk (a b : ByteArray) (ha : a.size ≤ 1000) (hb : b.size ≤ 1000) : RDiffOk a b := fun W => (rdiff_any a b W ha hb).mono fun _ _ h => RRead.of h
theorem knownOk (m : Int) : KnownOk m := fun W h => known_any m W h
theorem edits_len (x y : List ByteArray) : (edits x y).length ≤ 3 * (x.length + y.length) + 3 := by
  have key : ∀ (l : List (Nat × ByteArray)) (s : St ByteArray), (fin (l.foldl stp s)).length ≤ s.E.length + 3 * l.length + 3 := by
    intro l
    induction l with
    | nil =>
      intro s
      have h1 := put1_length 1 s.K
      have h2 := put1_length 2 s.D
      have h3 := put1_length 3 s.I
      simp only [List.foldl_nil, fin, List.length_append, List.length_nil]
      omega
    | cons o l ih =>
      intro s
      rw [List.foldl_cons]
      have := ih (stp s o)
      have h4 : (stp s o).E.length ≤ s.E.length + 2 := by
        have h1 := put1_length 1 s.K
        have h2 := put1_length 2 s.D
        have h3 := put1_length 3 s.I
        unfold stp
        split
        · simp only [List.length_append]; omega
        · split <;> simp only [List.length_append] <;> omega
      simp only [List.length_cons]
      omega
  have hs : ∀ n (x y : List ByteArray), x.length + y.length ≤ n → (scr x y).length ≤ x.length + y.length := by
    intro n
    induction n with
    | zero =>
      intro x y h
      cases x with
      | nil => cases y with
        | nil => simp [scr]
        | cons b y => simp at h
      | cons a x => simp at h
    | succ n ih =>
      intro x y h
      cases x with
      | nil => cases y with
        | nil => simp [scr]
        | cons b y =>
          simp only [List.length_cons, List.length_nil] at h
          have := ih [] y (by simp only [List.length_nil]; omega)
          rw [scr]; simp only [List.length_cons, List.length_nil] at *; omega
      | cons a x => cases y with
        | nil =>
          simp only [List.length_cons, List.length_nil] at h
          have := ih x [] (by simp only [List.length_nil]; omega)
          rw [scr]; simp only [List.length_cons, List.length_nil] at *; omega
        | cons b y =>
          simp only [List.length_cons] at h
          have i1 := ih x y (by omega)
          have i2 := ih x (b :: y) (by simp only [List.length_cons]; omega)
          have i3 := ih (a :: x) y (by simp only [List.length_cons]; omega)
          rw [scr]
          split
          · simp only [List.length_cons] at *; omega
          · split <;> simp only [List.length_cons] at * <;> omega
  have h1 := key (scr x y) ⟨[], [], [], []⟩
  have h2 := hs _ x y (Nat.le_refl _)
  unfold edits run
  simp only [List.length_nil] at h1
  omega
theorem EIe_len (a b : ByteArray) (ha : a.size ≤ 1000) (hb : b.size ≤ 1000) : (EI (edits (LN a) (LN b))).length ≤ 7000 := by
  rw [EI_length]
  have := edits_len (LN a) (LN b)
  have := LN_length a
  have := LN_length b
  omega

set_option maxRecDepth 100000 in
set_option maxHeartbeats 4000000 in
theorem exact_any (a b : ByteArray) (A : Option Addr) (n c : Nat) (zs : List Int) (m : Int) (w : World) (hr : RdZ w A n c zs) (hm : w.cell? ⟨0, 0, none⟩ = some (.int .i64 m)) (ha9 : a.size ≤ 9223372036854775807) (hb9 : b.size ≤ 9223372036854775807) :
    Calls Tryd.prog 3 #[.string a, .string b, .slice A n c] w fun e w' => e = .returned (.bool true) ∧ Below w.heap.size w w' := by
  have h00 : 0 < w.heap.size := World.block_lt_of_cell? w _ hm
  have HK := Lib.hid (knownOk m)
  have HM := Lib.hid hm
  have HP := Lib.hid (pair_any A n c zs w hr)
  clear hm hr
  by_cases h1 : a.size ≤ 200
  · by_cases h2 : b.size ≤ 200
    · have HD := Lib.hid (diffOk m a b (by omega) (by omega))
      have HR := Lib.hid (rdiffOk a b (by omega) (by omega))
      have HL := Lib.hid (EIe_len a b (by omega) (by omega))
      have HE : Hid (∀ x y : ByteArray, x.size ≤ 150 → y.size ≤ 150 → DiffOk m x y ∧ RDiffOk x y ∧ (EI (edits (LN x) (LN y))).length ≤ 7000) := Lib.hid fun x y hx hy => ⟨diffOk m x y (by omega) (by omega), rdiffOk x y (by omega) (by omega), EIe_len x y (by omega) (by omega)⟩
      have d1 : decide ((200 : Int) < (a.size : Int)) = false := by simp; omega
      have d2 : decide ((200 : Int) < (b.size : Int)) = false := by simp; omega
      have d3 : decide (200 < a.size) = false := by simp; omega
      have d4 : decide (200 < b.size) = false := by simp; omega
      go_enter Tryd.func3, Tryd.ntmps3
      go_wp2_with fail
      go_at_call 12
      refine HP.out.mono ?_
      rintro e w1 ⟨x, y, rfl, hx, hy, hb1⟩
      have HE1 := Lib.hid (HE.out x y hx hy)
      clear HE HP hx hy
      go_wp2_with fail
      go_at_call 14
      refine (HD.out w1 ((hb1.cell h00).trans HM.out)).mono ?_
      rintro e w2 ⟨A2, n2, c2, rfl, hE2, hb2⟩
      have hl2 := hE2.len
      have hn2 : n2 ≤ 100000 := by rw [hl2]; have := HL.out; omega
      have hb2 := below_call hb1 hb2
      clear hl2 hb1
      go_wp2_with fail
      go_at_call 15
      refine (HR.out w2).mono ?_
      rintro e w3 ⟨A3, n3, c3, rfl, hE3, hb3⟩
      have HS := Lib.hid (same_true A2 n2 c2 A3 n3 c3 _ w3 (RdE.below hE2 hb3) hE3 hn2)
      have hb3 := below_call hb2 hb3
      clear hE2 hE3 hb2
      go_wp2_with fail
      go_at_call 13
      refine HS.out.mono ?_
      rintro e w4 ⟨rfl, hb4⟩
      have hb4 := below_call hb3 hb4
      clear HS hb3
      go_wp2_with fail
      go_at_call 14
      refine (HE1.out.1 w4 ((hb4.cell h00).trans HM.out)).mono ?_
      rintro e w5 ⟨A5, n5, c5, rfl, hE5, hb5⟩
      have hl5 := hE5.len
      have hn5 : n5 ≤ 100000 := by rw [hl5]; have := HE1.out.2.2; omega
      have hb5 := below_call hb4 hb5
      clear hl5 hb4
      go_wp2_with fail
      go_at_call 15
      refine (HE1.out.2.1 w5).mono ?_
      rintro e w6 ⟨A6, n6, c6, rfl, hE6, hb6⟩
      have HS := Lib.hid (same_true A5 n5 c5 A6 n6 c6 _ w6 (RdE.below hE5 hb6) hE6 hn5)
      have hb6 := below_call hb5 hb6
      clear hE5 hE6 hb5
      go_wp2_with fail
      go_at_call 13
      refine HS.out.mono ?_
      rintro e w7 ⟨rfl, hb7⟩
      have hb7 := below_call hb6 hb7
      clear HS hb6
      go_wp2_with fail
      go_at_call 11
      refine (HK.out w7 ((hb7.cell h00).trans HM.out)).mono ?_
      rintro e w8 ⟨rfl, hb8⟩
      go_wp2_with fail
      go_ret
      exact ⟨rfl, below_call hb7 hb8⟩
    · have d1 : decide ((200 : Int) < (a.size : Int)) = false := by simp; omega
      have d2 : decide ((200 : Int) < (b.size : Int)) = true := by simp; omega
      have d3 : decide (200 < a.size) = false := by simp; omega
      have d4 : decide (200 < b.size) = true := by simp; omega
      go_enter Tryd.func3, Tryd.ntmps3
      go_wp2_with fail
      go_at_call 11
      refine (HK.out w HM.out).mono ?_
      rintro e w8 ⟨rfl, hb8⟩
      go_wp2_with fail
      go_ret
      exact ⟨rfl, hb8⟩
  · have d1 : decide ((200 : Int) < (a.size : Int)) = true := by simp; omega
    have d3 : decide (200 < a.size) = true := by simp; omega
    go_enter Tryd.func3, Tryd.ntmps3
    go_wp2_with fail
    go_at_call 11
    refine (HK.out w HM.out).mono ?_
    rintro e w8 ⟨rfl, hb8⟩
    go_wp2_with fail
    go_ret
    exact ⟨rfl, hb8⟩
end Go.Proofs.YtakbpdlfgjfbeaaDoor
