/- The walk of awake: the example of the chapter. -/
import Derived.Test.YtdfmdciopeklhaaGen2
import Derived.Test.YtdfmdciopeklhaaWords2
import Derived.Lib.SlBytesConst
namespace Go.Proofs.Ytdfmdciopeklhaa
open Go.RowKit
set_option linter.unusedSimpArgs false
set_option linter.unusedVariables false

theorem write_ok (A : Option Addr) (n c : Nat) (l : List UInt8) (s : Int) (A2 : Option Addr) (n2 c2 : Nat) (l2 : List UInt8) (w : World) (hr : RdB w A n c l) (hr2 : RdB w A2 n2 c2 l2)
    (hv : validB n s = true) (ht : n + n2 ≤ 1048576) : Calls Try.prog 19 #[.agg #[.slice A n c, .int .i64 s], .slice A2 n2 c2] w (RDiskE w (l ++ l2) s 0) := by
  have h := write_any A n c l s A2 n2 c2 l2 w hr hr2
  have h1 := hr.len
  have h2 := hr2.len
  have ht' : tooB n n2 = false := by simp [tooB]; omega
  have e1 : wrL l s l2 = l ++ l2 := by simp [wrL, ← h1, ← h2, hv, ht']
  have e2 : wrS l s l2 = s := by simp [wrS, ← h1, ← h2, hv, ht']
  have e3 : wrE l s l2 = 0 := by simp [wrE, ← h1, ← h2, hv, ht']
  rw [e1, e2, e3] at h
  exact h
theorem sync_ok (A : Option Addr) (n c : Nat) (l : List UInt8) (s : Int) (w : World) (hr : RdB w A n c l) (hv : validB n s = true) :
    Calls Try.prog 12 #[.agg #[.slice A n c, .int .i64 s]] w (RDisk w l n) := by
  obtain ⟨v1, v2, v3⟩ := valid_le hv
  have h := sync_any A n c l s w hr (by omega)
  have e : syS l s = n := by simp [syS, ← hr.len, hv]
  rw [e] at h
  exact h

theorem b2s_conv (w : World) (A : Option Addr) (n c : Nat) (l : List UInt8) (h : RdB w A n c l) :
    (convert 22 9 (.slice A n c)).run Try.prog w = .ok (.string ⟨l.toArray⟩) w :=
  (run_convert_bytes_string (P := Try.prog) w 22 9 5 A n c Try.underlying22 Try.underlying5 Try.underlying9).trans (run_b2s w A n c l h)

theorem heap_new_o {w : World} {o : Obj} {g : Nat} (h : g = w.heap.size) : (w.alloc o).heap[g]? = some o := by rw [heap_alloc_get, if_pos h]

set_option maxHeartbeats 1600000 in
theorem awake_any (w : World) : Calls Try.prog 10 #[] w fun e w' => e = .returned (.bool true) ∧ Below w.heap.size w w' := by
  have kc := fun (w : World) (C : Array Value) (n c : Nat) => Lib.run_convert_bytes_const (P := Try.prog) w 22 5 C n c Try.underlying22 Try.underlying5
  go_enter Try.func10, Try.ntmps10
  go_wp2_with fail
  refine (write_ok none 0 0 [] 0 _ 2 2 [97, 98] _ (RdB.nil _) (RdB.lit (heap_new_o rfl) rfl rfl (Nat.le_refl _) (by unfold maxLen; omega)) rfl (by omega)).mono ?_
  rintro e w1 ⟨v1, rfl, ⟨d1, rfl, ⟨A1, n1, c1, rfl, ho1⟩⟩, hb1⟩
  have h1n := ho1.len
  simp at h1n
  subst h1n
  go_wp2_with fail
  have ho1' : OwB w1 (w.heap.size + 1) 5 A1 2 c1 [97, 98] := OwB.mono ho1 (by simp)
  clear ho1
  refine (sync_ok A1 2 c1 [97, 98] 0 _ (ho1'.rd.alloc _) rfl).mono ?_
  rintro e w2 ⟨v2, rfl, ⟨A2, n2, c2, rfl, ho2⟩, hb2⟩
  have h2n := ho2.len
  simp at h2n
  subst h2n
  obtain ⟨kc2, kf2, kz2, kh2⟩ := blk_cells hb2 (g := w1.heap.size) (t := 24) (cs := #[.slice A1 2 c1, .int .i64 0]) (by (focus (repeat' first | with_reducible assumption | (with_reducible refine heap_drew ?_) | (with_reducible refine heap_drewN ?_) | (with_reducible refine heap_new ?_; focus (first | rfl | omega | (simp; done))) | (with_reducible refine heap_old ?_) | (with_reducible apply heap_near') | ((with_reducible show Array.setIfInBounds _ _ _ = _); rfl) | (with_reducible refine heap_far ?_ ?_; focus (first | omega | (simp; omega) | (simp; done))) | (with_reducible apply heap_grown; with_reducible assumption; (focus (first | omega | (simp; omega)))) | (with_reducible apply heap_call; with_reducible assumption))))
  go_wp2_with fail
  refine (write_ok A2 2 c2 [97, 98] 2 _ 2 2 [99, 100] _ (ho2.rd.alloc _) (RdB.lit (heap_new_o rfl) rfl rfl (Nat.le_refl _) (by unfold maxLen; omega)) rfl (by omega)).mono ?_
  rintro e w3 ⟨v3, rfl, ⟨d3, rfl, ⟨A3, n3, c3, rfl, ho3⟩⟩, hb3⟩
  have h3n := ho3.len
  simp at h3n
  subst h3n
  obtain ⟨kc3, kf3, kz3, kh3⟩ := blk_cells hb3 (g := w1.heap.size) (t := 24) (cs := #[.slice A1 2 c1, .int .i64 0]) (by (focus (repeat' first | with_reducible assumption | (with_reducible refine heap_drew ?_) | (with_reducible refine heap_drewN ?_) | (with_reducible refine heap_new ?_; focus (first | rfl | omega | (simp; done))) | (with_reducible refine heap_old ?_) | (with_reducible apply heap_near') | ((with_reducible show Array.setIfInBounds _ _ _ = _); rfl) | (with_reducible refine heap_far ?_ ?_; focus (first | omega | (simp; omega) | (simp; done))) | (with_reducible apply heap_grown; with_reducible assumption; (focus (first | omega | (simp; omega)))) | (with_reducible apply heap_call; with_reducible assumption))))
  go_wp2_with fail
  have ho3a : OwB w3 (w2.heap.size + 1) 5 A3 4 c3 [97, 98, 99, 100] := OwB.mono ho3 (by simp)
  clear ho3
  have ho3' : OwB ((w3.setCell { block := w1.heap.size, off := 0 } (Value.slice A3 4 c3)).setCell { block := w1.heap.size, off := 1 } (Value.int IntKind.i64 2)) (w1.heap.size + 1) 5 A3 4 c3 [97, 98, 99, 100] := (by apply OwB.mono; (focus (repeat' first | with_reducible assumption | (with_reducible apply OwB.drew) | (with_reducible apply OwB.drewN) | (with_reducible apply OwB.alloc) | (with_reducible apply OwB.stored) | (with_reducible apply OwB.set) | (with_reducible apply OwB.call; with_reducible assumption) | omega | (simp; done) | (simp; omega))); (focus (first | omega | (simp; done) | (simp; omega))))
  refine (crash_pos A3 4 c3 2 0 [97, 98, 99, 100] 1 3 _ ho3'.rd (by omega) rfl rfl).mono ?_
  rintro e w4 ⟨v4, rfl, ⟨A4, n4, c4, rfl, ho4⟩, hb4⟩
  have h4n := ho4.len
  simp at h4n
  subst h4n
  obtain ⟨kc4, kf4, kz4, kh4⟩ := blk_cells hb4 (g := w1.heap.size) (t := 24) (cs := #[.slice A3 4 c3, .int .i64 2]) (by (focus (repeat' first | with_reducible assumption | (with_reducible refine heap_drew ?_) | (with_reducible refine heap_drewN ?_) | (with_reducible refine heap_new ?_; focus (first | rfl | omega | (simp; done))) | (with_reducible refine heap_old ?_) | (with_reducible apply heap_near') | ((with_reducible show Array.setIfInBounds _ _ _ = _); rfl) | (with_reducible refine heap_far ?_ ?_; focus (first | omega | (simp; omega) | (simp; done))) | (with_reducible apply heap_grown; with_reducible assumption; (focus (first | omega | (simp; omega)))) | (with_reducible apply heap_call; with_reducible assumption))))
  go_wp2_with fail
  have e4 : (List.take (2 + 0 + 1) [97, 98, 99, 100]).set (2 + 0) ([97, 98, 99, 100].getD (2 + 0) 0 ^^^ low8 3) = [97, 98, 96] := by decide
  rw [e4] at ho4
  have ho4a : OwB w4 (w3.heap.size) 5 A4 3 c4 [97, 98, 96] := OwB.mono ho4 (by simp)
  clear ho4 e4
  refine (valid_any A3 4 c3 2 _).mono ?_
  rintro e w5 ⟨rfl, hb5⟩
  have hv5 : validB 4 2 = true := rfl
  obtain ⟨kc5, kf5, kz5, kh5⟩ := blk_cells hb5 (g := w4.heap.size) (t := 24) (cs := #[.slice A4 3 c4, .int .i64 3]) (by (focus (repeat' first | with_reducible assumption | (with_reducible refine heap_drew ?_) | (with_reducible refine heap_drewN ?_) | (with_reducible refine heap_new ?_; focus (first | rfl | omega | (simp; done))) | (with_reducible refine heap_old ?_) | (with_reducible apply heap_near') | ((with_reducible show Array.setIfInBounds _ _ _ = _); rfl) | (with_reducible refine heap_far ?_ ?_; focus (first | omega | (simp; omega) | (simp; done))) | (with_reducible apply heap_grown; with_reducible assumption; (focus (first | omega | (simp; omega)))) | (with_reducible apply heap_call; with_reducible assumption))))
  have h5 : RdB w5 A4 3 c4 [97, 98, 96] := ((ho4a.rd).alloc _).below hb5
  have hcv := b2s_conv w5 A4 3 c4 [97, 98, 96] h5
  go_wp2
  go_ret
  have z1 : w.heap.size < w1.heap.size := by have := hb1.size; simp at this; omega
  exact ⟨rfl, by (refine bel_out ?_; (focus (repeat' first | (with_reducible refine bel_refl ?_) | with_reducible assumption | with_reducible refine bel_drew ?_ | with_reducible refine bel_drewN _ ?_ | with_reducible refine bel_alloc _ ?_ | with_reducible refine bel_set ?_ _ ?_ | (with_reducible apply bel_call; with_reducible assumption) | with_reducible exact Nat.le_refl _ | omega | (simp; done) | (simp; omega))))⟩

end Go.Proofs.Ytdfmdciopeklhaa
