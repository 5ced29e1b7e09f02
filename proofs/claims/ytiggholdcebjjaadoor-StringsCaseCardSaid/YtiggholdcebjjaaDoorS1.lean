/- The walks of starts and offsets. -/
import Derived.Test.YtiggholdcebjjaaDoorSI
import Derived.Test.YtiggholdcebjjaaDoorSPlain
namespace Go.Proofs.YtiggholdcebjjaaDoor
open Go.RowKit
set_option linter.unusedSimpArgs false
set_option linter.unusedVariables false

set_option maxRecDepth 100000 in
set_option maxHeartbeats 1600000 in
theorem offsets_any (s : ByteArray) (w : World) (hsz : s.size ≤ 8796093022207) :
    Calls Tryd.prog 20 #[.string s] w fun e w' => ∃ A c, e = .returned (.slice A (offs s).length c) ∧ OwR RI 1 w' w.heap.size 3 A (offs s).length c (offs s) ∧ Below w.heap.size w w' := by
  obtain ⟨i0, hi, hz0, hz1, hz2⟩ := info_parts int_info
  go_enter Tryd.func20, Tryd.ntmps20
  have e8 : IntKind.i64.wrap ((s.size : Int) + 1) = (s.size : Int) + 1 := by rw [IntKind.wrap_i64]; omega
  have hmk : ∀ W : World, (Instr.makeSlice 33 (.int .i64 0) (.int .i64 ((s.size : Int) + 1))).run Tryd.prog W = _ := fun W => run_make_cap Tryd.underlying33 hi hz0 hz1 hz2 (s.size + 1) (by omega) W
  go_wp2
  go_loopw [3] (fun v wr => ∃ (pos fuel : Nat) (A : Option Addr) (n c : Nat) (L : List Nat), v = .slice A n c ∧ wr.heap[w.heap.size + 1]? = some (.stringIter s pos) ∧ OwR RI 1 wr w.heap.size 3 A n c L ∧ Below w.heap.size w wr ∧ Hid (L ++ cutsFrom s fuel pos = cutsFrom s s.size 0) ∧ s.size ≤ pos + fuel ∧ n ≤ pos ∧ n ≤ s.size) (fun _ wr => s.size - wr.iterPos (w.heap.size + 1))
  case atStart => exact ⟨0, s.size, some ⟨w.heap.size, 0, none⟩, 0, s.size + 1, [], rfl, by have := World.iter_heap (w.alloc (.cells (madeCells #[.int .i64 0] (s.size + 1)) 3)) s 0; simpa using this, OwI.alloc (OwI.made (Nat.le_refl _) (by unfold maxLen; omega)) _, ((Below.refl _ _).alloc (Nat.le_refl _) _).alloc (by simp) _, rfl, by omega, by simp, by omega⟩
  case round =>
    obtain ⟨pos, fuel, A, n, c, L, rfl, hit, hown, hbw, HS, hb, hlen, hps⟩ := hrel
    have hpos0 := iterPos_of hit
    obtain rfl : n = L.length := hown.len
    have hBl0 := lt_of_block hit
    by_cases hp : pos < s.size
    · have hnx : ∀ ty, (Instr.next (.pointer (some ⟨w.heap.size + 1, 0, none⟩)) true ty).run Tryd.prog wr = _ := fun ty => Lib.run_next_any_at wr (w.heap.size + 1) s pos ty hit hp
      have hwd := Lib.decode_width_pos s pos hp
      obtain ⟨fuel, rfl⟩ : ∃ f', fuel = f' + 1 := ⟨fuel - 1, by omega⟩
      have hit2 := Lib.iterAt_heap wr (w.heap.size + 1) s pos (pos + (Utf8.decode s pos).2) hit
      have hbw2 := Lib.below_iterAt hbw (k := w.heap.size + 1) (Nat.le_succ _) s (pos + (Utf8.decode s pos).2)
      have hown2 := OwI.iter2 hown hit (pos + (Utf8.decode s pos).2)
      have HS2 : Hid (L ++ [pos] ++ cutsFrom s fuel (pos + (Utf8.decode s pos).2) = cutsFrom s s.size 0) := by
        have h0 := HS.out
        rw [cutsFrom_step s fuel pos hp] at h0
        rw [List.append_assoc]
        exact Lib.hid h0
      generalize (Utf8.decode s pos).2 = wd at *
      generalize (Utf8.decode s pos).1 = rn at *
      generalize hW1 : wr.iterAt (w.heap.size + 1) s (pos + wd) = W1 at *
      clear hW1 hit hown hbw HS
      have hBlt := lt_of_block hit2
      go_wp2_with (first
        | (at_builtin; go_must (refine wpList_append_r _ rfl (.tmp 14) (.tmp 16) 33 rfl 1 8 w.heap.size 3 i0 (.int .i64 0) RI.stay (by decide) Tryd.underlying33 hi hz0 hz1 hz2 rfl (by omega) A L.length c L rfl (OwI.alloc hown2 _) (some ⟨W1.heap.size, 0, none⟩) 1 1 rfl [pos] [.int .i64 (pos : Int)] (Reads.lit (cs := #[.int .i64 (pos : Int)]) rfl) (Fits.one rfl rfl) rfl ?_ ?_ ?_ ?_ ?_; (focus (simp [Value.oneCell'])); (focus (unfold maxLen; omega)); (focus omega); (focus (simp; omega)); intro A2 cc w3 ho3 hg3)))
      have hit4 := heap_old (o := Obj.cells #[.int .i64 (pos : Int)] 3) hit2
      have hit5 := hg3.heap (OwI.ne_iter (OwI.alloc hown2 _) hit4) hit4
      go_roundw
      case rel => exact ⟨pos + wd, fuel, A2, _, cc, L ++ [pos], rfl, hit5, ho3, (hbw2.alloc (by omega) _).trans (hg3.b), HS2, by omega, by omega, by omega⟩
      case measure =>
        rw [iterPos_of (hit5), hpos0]
        omega
    · have hnx : ∀ ty, (Instr.next (.pointer (some ⟨w.heap.size + 1, 0, none⟩)) true ty).run Tryd.prog wr = _ := fun ty => Lib.run_next_end_at wr (w.heap.size + 1) s pos ty hit hp
      have HS2 : Hid (L = cutsFrom s s.size 0) := by
        have h0 := HS.out
        rw [cutsFrom_end s fuel pos hp, List.append_nil] at h0
        exact Lib.hid h0
      clear HS
      go_wp2_with (first
        | (at_builtin; go_must (refine wpList_append_r _ rfl (.tmp 18) (.tmp 21) 33 rfl 1 8 w.heap.size 3 i0 (.int .i64 0) RI.stay (by decide) Tryd.underlying33 hi hz0 hz1 hz2 rfl (by omega) A L.length c L rfl (OwI.alloc hown _) (some ⟨wr.heap.size, 0, none⟩) 1 1 rfl [s.size] [.int .i64 (s.size : Int)] (Reads.lit (cs := #[.int .i64 (s.size : Int)]) rfl) (Fits.one rfl rfl) rfl ?_ ?_ ?_ ?_ ?_; (focus (simp [Value.oneCell'])); (focus (unfold maxLen; omega)); (focus omega); (focus (simp; omega)); intro A2 cc w3 ho3 hg3)))
      have e1 : offs s = L ++ [s.size] := by rw [offs, ← HS2.out]
      rw [e1, List.length_append]
      go_ret
      exact ⟨A2, cc, rfl, ho3, (hbw.alloc (by omega) _).trans (hg3.b)⟩

end Go.Proofs.YtiggholdcebjjaaDoor
