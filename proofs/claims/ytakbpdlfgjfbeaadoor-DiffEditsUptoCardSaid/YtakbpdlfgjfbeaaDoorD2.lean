/- The walk of diff.Lines (strings.SplitAfter, the last empty piece left out). -/
import Derived.Test.YtakbpdlfgjfbeaaDoorD1
import Derived.Test.YtakbpdlfgjfbeaaDoorDP4
namespace Go.Proofs.YtakbpdlfgjfbeaaDoor
open Go.RowKit
set_option linter.unusedSimpArgs false
set_option linter.unusedVariables false

theorem splitAfter_any (s : ByteArray) (m : Int) (w : World) (hs : s.size < 4294967281) (hm : w.cell? ⟨0, 0, none⟩ = some (.int .i64 m)) :
    Calls Tryd.prog 37 #[.string s, .string nl] w fun e w' => e = .returned (.slice (some ⟨w.heap.size, 0, none⟩) (LN s ++ tlB s).length (LN s ++ tlB s).length) ∧ w' = w.alloc (.cells ((LN s ++ tlB s).map Value.string).toArray 9) := by
  have hle := Lib.countB_le nl (by decide) s.size s (Nat.le_refl _)
  have hlen := Lib.splitB_all nl (by decide) 1 _ s rfl
  have c := Tryd.strings_genSplit s nl 1 (-1) (Lib.countB s nl + 1) m w hs hm (by decide) (by decide) (by decide) (by decide) (by rw [if_pos (by decide)]; omega)
  rw [Nat.add_sub_cancel, hlen] at c
  have e2 : Lib.cellsOf (Lib.splitB nl 1 (Lib.countB s nl) s) (Lib.countB s nl + 1) = ((Lib.splitB nl 1 (Lib.countB s nl) s).map Value.string).toArray := by rw [← hlen]; exact Lib.cellsOf_full _
  rw [e2, ← hlen, split_LN] at c
  have hz : nl.size = 1 := rfl
  have HC := Lib.hid c
  clear c e2 hlen hle
  generalize (LN s ++ tlB s) = L at *
  generalize nl = q at *
  go_enter Tryd.func37, Tryd.ntmps37
  go_wp2_with (first
    | (go_at_call 50; go_must (refine HC.out.mono ?_; rintro e w1 ⟨rfl, rfl⟩)))
  go_ret
  exact ⟨rfl, rfl⟩
theorem last_fact (s : ByteArray) : ∃ k d : Nat, (LN s ++ tlB s).length = k + 1 ∧ k + d = (LN s).length ∧ min 1 ((LN s ++ tlB s).getD k ByteArray.empty).size = d := by
  by_cases h : s.data.toList = [] ∨ s.data.toList.getLast? = some 10
  · have e : tlB s = [ByteArray.empty] := by unfold tlB tl; rw [if_pos h]; rfl
    refine ⟨(LN s).length, 0, by rw [e]; simp, by omega, ?_⟩
    rw [e]
    simp
  · have e : tlB s = [] := by unfold tlB tl; rw [if_neg h]; rfl
    rw [e, List.append_nil]
    have hne : 0 < (LN s).length := by
      rcases Nat.eq_zero_or_pos (LN s).length with h0 | h0
      · have h1 : lnl s.data.toList = [] := by
          unfold LN at h0; rw [List.length_map] at h0; exact List.length_eq_zero_iff.1 h0
        have := lnl_flatten s.data.toList
        rw [h1] at this
        exact absurd (Or.inl this.symm) h
      · exact h0
    refine ⟨(LN s).length - 1, 1, by omega, by omega, ?_⟩
    have hk : (LN s).length - 1 < (LN s).length := by omega
    have e2 : (LN s).getD ((LN s).length - 1) ByteArray.empty = (LN s)[(LN s).length - 1] := by simp [List.getD, List.getElem?_eq_getElem hk]
    rw [e2]
    have hm : (LN s)[(LN s).length - 1] ∈ LN s := List.getElem_mem hk
    obtain ⟨l, hl1, hl2⟩ := List.mem_map.1 hm
    rw [← hl2]
    have : l ≠ [] := fun e => lnl_ne _ (e ▸ hl1)
    have hp := List.length_pos_iff.2 this
    show min 1 l.toArray.size = 1
    rw [List.size_toArray]
    omega
theorem RdS.row (w : World) (t : Nat) (L M : List ByteArray) (hmax : (L ++ M).length ≤ maxLen) :
    RdR RS 1 (w.alloc (.cells ((L ++ M).map Value.string).toArray t)) (some ⟨w.heap.size, 0, none⟩) L.length (L ++ M).length L := by
  refine ⟨rfl, by simp, hmax, L.map Value.string, ⟨by simp, fun _ => ⟨_, rfl, by rw [size_alloc_]; exact Nat.lt_succ_self _, fun j u hu => ?_⟩⟩, fun k a hk => ?_⟩
  · have e : (⟨w.heap.size, 0, none⟩ : Addr).add j = ⟨w.heap.size, j, none⟩ := by
      unfold Addr.add
      by_cases h0 : j = 0 <;> simp [h0]
    have h1 : (w.alloc (.cells ((L ++ M).map Value.string).toArray t)).heap[w.heap.size]? = some (.cells ((L ++ M).map Value.string).toArray t) := by rw [heap_alloc_get, if_pos rfl]
    rw [e, cell_of_row _ _ j _ _ _ h1]
    have hj : j < (L.map Value.string).length := by
      rcases Nat.lt_or_ge j (L.map Value.string).length with h | h
      · exact h
      · rw [List.getElem?_eq_none h] at hu; cases hu
    rw [List.getElem?_toArray, List.map_append, List.getElem?_append_left hj]
    exact hu
  · show _ = [Value.string a]
    have hkl : k < L.length := by
      rcases Nat.lt_or_ge k L.length with h | h
      · exact h
      · rw [List.getElem?_eq_none h] at hk; cases hk
    rw [Nat.mul_one, List.drop_eq_getElem_cons (by rw [List.length_map]; exact hkl)]
    rw [List.getElem?_eq_getElem hkl] at hk
    simp [Option.some.inj hk]

set_option maxRecDepth 100000 in
set_option maxHeartbeats 4000000 in
theorem lines_any (s : ByteArray) (m : Int) (w : World) (hs : s.size < 4294967281) (hm : w.cell? ⟨0, 0, none⟩ = some (.int .i64 m)) :
    Calls Tryd.prog 16 #[.string s] w fun e w' => ∃ A c, e = .returned (.slice A (LN s).length c) ∧ RdR RS 1 w' A (LN s).length c (LN s) ∧ TyB w' 9 A ∧ Below w.heap.size w w' := by
  obtain ⟨k, d, hk, hkd, hd⟩ := last_fact s
  have hln := LN_length s
  have HC := Lib.hid (splitAfter_any s m w hs hm)
  have HR := Lib.hid (RdS.row w 9 (LN s) (tlB s) (by rw [hk]; unfold maxLen; omega))
  have hcell : (w.alloc (.cells ((LN s ++ tlB s).map Value.string).toArray 9)).cell? ⟨w.heap.size, k, none⟩ = some (.string ((LN s ++ tlB s).getD k ByteArray.empty)) := by
    have h1 : (w.alloc (.cells ((LN s ++ tlB s).map Value.string).toArray 9)).heap[w.heap.size]? = some (.cells ((LN s ++ tlB s).map Value.string).toArray 9) := by rw [heap_alloc_get, if_pos rfl]
    rw [cell_of_row _ _ k _ _ _ h1]
    have hlt : k < (LN s ++ tlB s).length := by omega
    rw [List.getElem?_toArray, List.getElem?_map, List.getElem?_eq_getElem hlt]
    simp [List.getD, List.getElem?_eq_getElem hlt]
  have HTY : Hid (TyB (w.alloc (.cells ((LN s ++ tlB s).map Value.string).toArray 9)) 9 (some ⟨w.heap.size, 0, none⟩)) := Lib.hid (fun ad e => by injection e with e; subst e; exact ⟨_, (0, 0), by rw [heap_alloc_get, if_pos rfl]⟩)
  have hb : Below w.heap.size w (w.alloc (.cells ((LN s ++ tlB s).map Value.string).toArray 9)) := (Below.refl _ _).alloc (Nat.le_refl _) _
  generalize (LN s ++ tlB s).getD k ByteArray.empty = last at *
  rw [hk] at HC HR
  generalize hw1 : (w.alloc (.cells ((LN s ++ tlB s).map Value.string).toArray 9)) = w1 at *
  clear hw1
  generalize hn : (LN s).length = n at *
  have hn2 := Lib.hid hn
  clear hn hk
  have hnl : nl = ⟨#[10]⟩ := rfl
  rw [hnl] at HC
  have g0 : ((k + 1 : Nat) : Int) - 1 = (k : Int) := by omega
  have g1 : min (1 : Int) (last.size : Int) = (d : Int) := by omega
  have g2 : (k : Int) + (d : Int) = (n : Int) := by omega
  have g3 : (0 : Int) ≤ (k : Int) := by omega
  have g4 : (k : Int) < ((k + 1 : Nat) : Int) := by omega
  have g5 : (n : Int) ≤ ((k + 1 : Nat) : Int) := by omega
  have g6 : (0 : Int) ≤ (n : Int) := by omega
  have g7 : wrap64 (k : Int) = (k : Int) := by unfold wrap64; omega
  have g8 : wrap64 (n : Int) = (n : Int) := by unfold wrap64; omega
  clear hd hkd hln
  generalize k + 1 = N at *
  go_enter Tryd.func16, Tryd.ntmps16
  go_wp2_with (first
    | (go_at_call 37; go_must (refine HC.out.mono ?_; rintro e w1 ⟨rfl, rfl⟩)))
  go_ret
  exact ⟨_, _, rfl, HR.out, HTY.out, hb⟩
end Go.Proofs.YtakbpdlfgjfbeaaDoor
