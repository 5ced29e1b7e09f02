/- The tape: a text of some lines: its bound. -/
import Derived.Test.YtakbpdlfgjfbeaaDoorD4
namespace Go.Proofs.YtakbpdlfgjfbeaaDoor
open Go.RowKit
set_option linter.unusedSimpArgs false
set_option linter.unusedVariables false

def words : List ByteArray := [⟨#[97]⟩, ⟨#[98]⟩, ⟨#[99]⟩, ⟨#[97]⟩, ⟨#[]⟩, ⟨#[61, 61, 32, 115, 32, 61, 61]⟩, ⟨#[61, 61, 32, 116, 32, 61, 61]⟩, ⟨#[61, 61, 61, 32, 115, 32, 61, 61, 61]⟩, ⟨#[61, 61, 32, 115, 32, 61, 61]⟩]
theorem words_size : ∀ k, k < 9 → (words.getD k ByteArray.empty).size ≤ 9 := by decide

theorem TapeAt.alloc {w : World} {g : Nat} {A : Option Addr} {n c : Nat} (h : TapeAt w g A n c) (o : Obj) : TapeAt (w.alloc o) g A n c := by
  obtain ⟨k, hk, hh⟩ := h
  refine ⟨k, hk, ?_⟩
  have : g < w.heap.size := by
    rcases Nat.lt_or_ge g w.heap.size with h1 | h1
    · exact h1
    · rw [Array.getElem?_eq_none h1] at hh; cases hh
  rw [heap_alloc_get, if_neg (by omega)]
  exact hh
theorem TapeAt.lt {w : World} {g : Nat} {A : Option Addr} {n c : Nat} (h : TapeAt w g A n c) : g < w.heap.size := by
  obtain ⟨k, hk, hh⟩ := h
  rcases Nat.lt_or_ge g w.heap.size with h1 | h1
  · exact h1
  · rw [Array.getElem?_eq_none h1] at hh; cases hh
theorem below_next {w0 w w' : World} {g : Nat} (hb : Below w0.heap.size w0 w) (hg : w.grownBy w' (some g)) (h : w0.heap.size ≤ g) : Below w0.heap.size w0 w' :=
  hb.grown hg hb.size (fun k hk => by injection hk with hk; omega)

set_option maxRecDepth 100000 in
set_option maxHeartbeats 4000000 in
theorem tlines_any (w0 : World) (g : Nat) (A : Option Addr) (n c : Nat) (zs : List Int) (w : World) (hr : RdZ w0 A n c zs) (hb0 : Below w0.heap.size w0 w) (hg : w0.heap.size ≤ g) (hs : TapeAt w g A n c) :
    Calls Tryd.prog 31 #[.pointer (some ⟨g, 0, none⟩), .int .i64 12] w fun e w' => ∃ s : ByteArray, e = .returned (.string s) ∧ s.size ≤ 150 ∧ TapeAt w' g A n c ∧ Below w0.heap.size w0 w' := by
  have HN : Hid (∀ (m : Int) (W : World), Below w0.heap.size w0 W → TapeAt W g A n c → 0 < m → m ≤ 4611686018427387904 → Calls Tryd.prog 48 #[.pointer (some ⟨g, 0, none⟩), .int .i64 m] W (TNext W g A n c m)) := Lib.hid fun m W h1 h2 h3 h4 => tnext_any w0 g A n c zs m W hr h1 hg h2 h3 h4
  have HO : Hid (∀ (W : World), Below w0.heap.size w0 W → TapeAt W g A n c → Calls Tryd.prog 49 #[.pointer (some ⟨g, 0, none⟩), .slice (some ⟨W.heap.size, 0, none⟩) 9 9] (W.alloc (.cells (words.map Value.string).toArray 9)) (TOf (W.alloc (.cells (words.map Value.string).toArray 9)) g A n c 9 words)) := Lib.hid fun W h1 h2 =>
    of_any w0 g A n c zs W.heap.size 9 9 words _ hr (h1.alloc h1.size _) hg (h2.alloc _) (by omega) (by omega) (by have := h2.lt; omega) (fun j hj => by
      have h3 : (W.alloc (.cells (words.map Value.string).toArray 9)).heap[W.heap.size]? = some (.cells (words.map Value.string).toArray 9) := by rw [heap_alloc_get, if_pos rfl]
      rw [cell_of_row _ _ j _ _ _ h3, List.getElem?_toArray, List.getElem?_map, List.getElem?_eq_getElem (show j < words.length from hj)]
      simp [List.getD, List.getElem?_eq_getElem (show j < words.length from hj)])
  have HG := Lib.hid hg
  clear hr hg
  go_enter Tryd.func31, Tryd.ntmps31
  go_wp2
  go_loopw [5, 6] (fun v5 v6 wr => ∃ (s : ByteArray) (i : Nat), i ≤ 11 ∧ s.size ≤ 10 * i ∧ v5 = .string s ∧ v6 = .int .i64 i ∧ TapeAt wr g A n c ∧ Below w0.heap.size w0 wr) (fun _ v6 _ => 12 - (intOf v6).toNat)
  case atStart => exact ⟨ByteArray.empty, 0, by omega, by decide, rfl, rfl, hs, hb0⟩
  case round =>
    obtain ⟨s, i, hi, hsz, rfl, rfl, ht, hbw⟩ := hrel
    clear hs hb0
    go_wp2_with fail
    go_at_call 48
    refine (HN.out 12 _ hbw ht (by decide) (by decide)).mono ?_
    rintro e w1 ⟨k, rfl, hk, ht1, hgr⟩
    have hb1 := below_next hbw hgr HG.out
    clear hgr
    by_cases hlt : i < k
    · have h1 : (i : Int) < (k : Int) := by omega
      have hi1 : (i : Int) ≤ 11 := by omega
      have HS := HO.out _ hb1 ht1
      unfold words at HS
      simp only [List.map_cons, List.map_nil] at HS
      go_wp2_with fail
      go_at_call 49
      refine HS.mono ?_
      rintro e w2 ⟨j, rfl, hj, ht2, hgr⟩
      have hb2 := below_next (hb1.alloc hb1.size _) hgr HG.out
      clear hgr HS
      have hz := words_size j hj
      unfold words at hz
      generalize List.getD _ j ByteArray.empty = x at hz ⊢
      have r1 : ¬ 9223372036854775807 < s.size + x.size := by omega
      have r2 : ¬ 9223372036854775807 < (s ++ x).size + (⟨#[10]⟩ : ByteArray).size := by rw [ByteArray.size_append]; show ¬ _ < _ + 1; omega
      go_wp2
      go_roundw
      case rel => exact ⟨s ++ x ++ ⟨#[10]⟩, i + 1, by omega, by rw [ByteArray.size_append, ByteArray.size_append]; show _ + 1 ≤ _; omega, rfl, by go_num, ht2, hb2⟩
      case measure => simp [intOf]; omega
    · have h1 : (k : Int) ≤ (i : Int) := by omega
      go_wp2_with fail
      go_at_call 48
      refine (HN.out 4 _ hb1 ht1 (by decide) (by decide)).mono ?_
      rintro e w2 ⟨j, rfl, hj, ht2, hgr⟩
      have hb2 := below_next hb1 hgr HG.out
      clear hgr
      have r1 : ¬ 9223372036854775807 < s.size + (⟨#[101, 110, 100]⟩ : ByteArray).size := by show ¬ _ < _ + 3; omega
      by_cases h0 : j = 0
      · subst h0
        go_wp2
        go_ret
        exact ⟨_, rfl, by rw [ByteArray.size_append]; show _ + 3 ≤ _; omega, ht2, hb2⟩
      · have h2 : ((j : Int) == 0) = false := by rw [beq_eq_false_iff_ne]; omega
        go_wp2
        go_ret
        exact ⟨s, rfl, by omega, ht2, hb2⟩
end Go.Proofs.YtakbpdlfgjfbeaaDoor
