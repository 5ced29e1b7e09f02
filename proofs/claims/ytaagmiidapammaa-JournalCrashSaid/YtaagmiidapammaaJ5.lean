/- The walk of awake; frames that are read again; records compared. -/
import Derived.Test.YtaagmiidapammaaJ4
import Derived.Lib.SlBytesConst
namespace Go.Proofs.Ytaagmiidapammaa
open Go.RowKit
set_option linter.unusedSimpArgs false
set_option linter.unusedVariables false

theorem next_frame (A : Option Addr) (n c : Nat) (s : Nat) (d r : List UInt8) (w : World) (hr : RdB w A n c (frameB s d ++ r)) (h1 : 1 ≤ s) (h2 : s ≤ 1073741824) (hd : d.length ≤ 65536) :
    Calls Try.prog 18 #[.slice A n c] w (Ret w fun v w' => ∃ A' n' c', v = .tuple #[.agg #[.int .i64 (s : Int), .slice A' n' c'], .int .i64 ((16 + d.length : Nat) : Int), .int .i64 0] ∧ OwB w' w.heap.size 5 A' n' c' d) := by
  obtain ⟨e1, e2, e3, e4⟩ := nx_frame s d r h1 h2 hd
  refine (next_any A n c _ w hr).mono ?_
  rintro e w' ⟨v, rfl, ⟨A', n', c', rfl, ho⟩, hb⟩
  rw [e1, e2, e3]
  rw [e4] at ho
  exact ⟨_, rfl, ⟨A', n', c', rfl, ho⟩, hb⟩

theorem sum_nil (w : World) : Calls Try.prog 14 #[.slice none 0 0] w fun e w' => e = .returned (.int .u32 2166136261) ∧ w = w' := by
  have h := sum_any none 0 0 [] w (RdB.nil w)
  have e : ((sumP []).toNat : Int) = 2166136261 := by decide
  rw [e] at h
  exact h
theorem sum_a (A : Option Addr) (w : World) (hr : RdB w A 1 1 [97]) : Calls Try.prog 14 #[.slice A 1 1] w fun e w' => e = .returned (.int .u32 3826002220) ∧ w = w' := by
  have h := sum_any A 1 1 [97] w hr
  have e : ((sumP [97]).toNat : Int) = 3826002220 := by decide
  rw [e] at h
  exact h

set_option maxHeartbeats 1600000 in
theorem awake_any (w : World) : Calls Try.prog 11 #[] w fun e w' => e = .returned (.bool true) ∧ Below w.heap.size w w' := by
  go_enter Try.func11, Try.ntmps11
  go_wp2_with fail
  refine (frame_ok 1 none 0 0 [] _ (RdB.nil _) (by omega) (by omega) (by omega)).mono ?_
  rintro e w1 ⟨v1, rfl, ⟨A1, n1, c1, rfl, ho1⟩, hb1⟩
  have hn1 : n1 = 16 := ho1.len.trans (frameB_length 1 [])
  subst hn1
  obtain ⟨g, rfl, hg1, hg2, hcell, hfr⟩ := ho1.cellAt 11 (by omega)
  have e11 : (((frameB 1 []).getD 11 0).toNat : Int) = 1 := by decide
  rw [e11] at hcell
  clear e11
  have hc11 : 16 ≤ c1 := ho1.cap
  go_wp2_with fail
  refine (next_frame _ 16 c1 1 [] [] _ (by simpa using ho1.rd) (by omega) (by omega) (by simp)).mono ?_
  rintro e w2 ⟨v2, rfl, ⟨A2, n2, c2, rfl, ho2⟩, hb2⟩
  have hcell2 := (hb2.cell (p := ⟨g, 11, none⟩) hg2).trans hcell
  have hne : g ≠ w2.heap.size := by have := hb2.size; omega
  have hc3 : ∀ o1 o2 : Obj, ((w2.alloc o1).alloc o2).cell? ⟨g, 11, none⟩ = some (.int .u8 1) := fun o1 o2 => by
    have h2 := hb2.size
    rw [World.cell?_alloc_lt _ _ _ (by simp; omega), World.cell?_alloc_lt _ _ _ (by show g < _; omega), hcell2]
  have kc := fun (C : Array Value) (n c : Nat) => Lib.run_convert_bytes_const (P := Try.prog) (w2.alloc (.cells #[.int .i64 1, .slice A2 n2 c2] 24)) 22 5 C n c Try.underlying22 Try.underlying5
  simp only [size_alloc_] at kc
  go_wp2_with (first
    | (go_at_call 14; (with_reducible refine (sum_nil _).mono ?_); rintro e W1 ⟨rfl, rfl⟩)
    | (go_at_call 14; go_must ((refine (sum_a _ _ ?_).mono ?_); (focus (exact RdB.lit (heap_new_o' (size_alloc_ _ _).symm) rfl rfl (Nat.le_refl _) (by unfold maxLen; omega))); rintro e W1 ⟨rfl, rfl⟩)))
  go_ret
  exact ⟨rfl, by (refine bel_out ?_; (focus (repeat' first | (with_reducible refine bel_refl ?_) | with_reducible assumption | with_reducible refine bel_drew ?_ | with_reducible refine bel_drewN _ ?_ | with_reducible refine bel_alloc _ ?_ | with_reducible refine bel_set ?_ _ ?_ | (with_reducible apply bel_call; with_reducible assumption) | (with_reducible apply bel_owg; with_reducible assumption; (focus omega)) | with_reducible exact Nat.le_refl _ | omega | (simp; done) | (simp; omega))))⟩

end Go.Proofs.Ytaagmiidapammaa
