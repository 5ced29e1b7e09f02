/- The walk of TokenText. -/
import Derived.Test.YtpcnfblpoepmbaaT9
namespace Go.Proofs.Ytpcnfblpoepmbaa
open Go.RowKit
set_option linter.unusedSimpArgs false
set_option linter.unusedVariables false

theorem and1 (x : Int) : bits .and .i64 x 1 = x % 2 := by
  have e : (BitVec.ofInt 64 (1 : Int)).toNat = 1 := by decide
  show IntKind.i64.wrap ((BitVec.ofInt 64 x &&& BitVec.ofInt 64 1).toNat : Int) = _
  rw [BitVec.toNat_and, e, BitVec.toNat_ofInt, show (1 : Nat) = 2 ^ 1 - 1 from rfl, Nat.and_two_pow_sub_one_eq_mod, IntKind.wrap_i64]
  omega

set_option maxRecDepth 100000 in
set_option maxHeartbeats 8000000 in
theorem lawtext_walk (s : ByteArray) (K f t n m : Int) (w : World) (hm : w.cell? ⟨0, 0, none⟩ = some (.int .i64 m)) :
    Calls Try.prog 7 #[.string s, .agg #[.int .i64 K, .int .i64 f, .int .i64 t], .int .i64 n] w fun e w' => e = .returned (.bool true) ∧ Below w.heap.size w w' := by
  have h0 : 0 < w.heap.size := World.block_lt_of_cell? _ _ hm
  have hx0 : Below w.heap.size w (w.alloc (.cells #[.int .i64 K, .int .i64 f, .int .i64 t] 31)) := (Below.refl _ _).alloc (Nat.le_refl _) _
  have hm0 := (hx0.cell (p := ⟨0, 0, none⟩) h0).trans hm
  by_cases h1 : (1500 : Int) < (s.size : Int)
  · go_enter Try.func7, Try.ntmps7
    go_wp2_with (first | (go_at_call 9; go_must (refine (known_any m _ hm0).mono ?_; rintro e w1 ⟨rfl, hb1⟩)))
    go_ret
    exact ⟨rfl, below_call hx0 hb1⟩
  obtain ⟨j, hj, hj4⟩ : ∃ j : Nat, bits .and .i64 n 3 = (j : Int) ∧ j < 4 := by
    rw [and3]
    exact ⟨(n % 4).toNat, by omega, by omega⟩
  obtain ⟨q, hq, hq2⟩ : ∃ q : Nat, bits .and .i64 (n / 8) 1 = (q : Int) ∧ q < 2 := by
    rw [and1]
    exact ⟨((n / 8) % 2).toNat, by omega, by omega⟩
  obtain ⟨c, hc⟩ : ∃ c : Bool, (bits .and .i64 n 4 == 0) = c := ⟨_, rfl⟩
  obtain ⟨r, hr⟩ : ∃ r, r = j % 3 := ⟨_, rfl⟩
  have hr1 : (j : Int) % 3 = (r : Int) := by omega
  have j0 : (0 : Int) ≤ (j : Int) := by omega
  have hr2 : (j : Int).tmod 3 = (r : Int) := by rw [Int.tmod_eq_emod_of_nonneg j0]; exact hr1
  obtain ⟨kk, hkk⟩ : ∃ kk, kk = 1 + r := ⟨_, rfl⟩
  have hk1 : (1 : Int) + (r : Int) = (kk : Int) := by omega
  have hk3 : kk = 1 ∨ kk = 2 ∨ kk = 3 := by omega
  have HT : Hid (∀ W, Calls Try.prog 16 #[.int .i64 (kk : Int), .bool c] W fun e w' => e = .returned (.string (ttx c kk)) ∧ Below W.heap.size W w') := Lib.hid fun W => tagtext_any c kk W hk3
  have hy : (ttx c kk).size ≤ 14 := by rcases hk3 with rfl | rfl | rfl <;> cases c <;> decide
  generalize ttx c kk = y at *
  have HA1 := Lib.hid fun W => text_any s K f t W
  have HA2 := Lib.hid fun W => rtext_any s K f t W
  have HB1 := Lib.hid fun W => tag_any s K f t W
  have HB2 := Lib.hid fun W => rtag_any s K f t W
  have HC1 := Lib.hid fun W => tag_any y (11 + (q : Int)) 0 (y.size : Int) W
  have HC2 := Lib.hid fun W => rtag_any y (11 + (q : Int)) 0 (y.size : Int) W
  generalize TG K (bl (TT s f t)) = g at *
  generalize TT s f t = x at *
  generalize TG (11 + (q : Int)) (bl (TT y 0 (y.size : Int))) = g2 at *
  clear hr hkk hk3
  go_enter Try.func7, Try.ntmps7
  go_wp2_with (first
    | (go_at_call 16; ((with_reducible refine (HT.out _).mono ?_); rintro e w1 ⟨rfl, hb1⟩)))
  have hx1 : Below w.heap.size w w1 := below_call hx0 hb1
  have hx2 : Below w.heap.size w (w1.alloc (.cells #[.int .i64 (11 + (q : Int)), .int .i64 0, .int .i64 (y.size : Int)] 31)) := hx1.alloc hx1.size _
  have HK : Hid (∀ W : World, Below (w1.alloc (.cells #[.int .i64 (11 + (q : Int)), .int .i64 0, .int .i64 (y.size : Int)] 31)).heap.size (w1.alloc (.cells #[.int .i64 (11 + (q : Int)), .int .i64 0, .int .i64 (y.size : Int)] 31)) W → (W.cell? ⟨w.heap.size, 0, none⟩ = some (.int .i64 K) ∧ W.cell? ⟨w.heap.size, 1, none⟩ = some (.int .i64 f) ∧ W.cell? ⟨w.heap.size, 2, none⟩ = some (.int .i64 t) ∧ W.cell? ⟨w1.heap.size, 0, none⟩ = some (.int .i64 (11 + (q : Int))) ∧ W.cell? ⟨w1.heap.size, 1, none⟩ = some (.int .i64 0) ∧ W.cell? ⟨w1.heap.size, 2, none⟩ = some (.int .i64 (y.size : Int)))) := Lib.hid fun W hW => by
    obtain ⟨_, _, _, kh⟩ := blk_cells hb1 (g := w.heap.size) (t := 31) (cs := #[.int .i64 K, .int .i64 f, .int .i64 t]) (heap_new rfl)
    obtain ⟨kc, _, _, _⟩ := blk_cells hW (g := w.heap.size) (t := 31) (cs := #[.int .i64 K, .int .i64 f, .int .i64 t]) (heap_old kh)
    obtain ⟨kc2, _, _, _⟩ := blk_cells hW (g := w1.heap.size) (t := 31) (cs := #[.int .i64 (11 + (q : Int)), .int .i64 0, .int .i64 (y.size : Int)]) (heap_new rfl)
    exact ⟨kc 0, kc 1, kc 2, kc2 0, kc2 1, kc2 2⟩
  have HM : Hid (∀ W : World, Below (w1.alloc (.cells #[.int .i64 (11 + (q : Int)), .int .i64 0, .int .i64 (y.size : Int)] 31)).heap.size (w1.alloc (.cells #[.int .i64 (11 + (q : Int)), .int .i64 0, .int .i64 (y.size : Int)] 31)) W → W.cell? ⟨0, 0, none⟩ = some (.int .i64 m)) := Lib.hid fun W hW => ((below_call hx2 hW).cell (p := ⟨0, 0, none⟩) h0).trans hm
  clear hb1 hx1 hx0 hm0
  obtain ⟨p0, p1, p2, p3, p4, p5⟩ := HK.out _ (Below.refl _ _)
  go_region_held3 (fun W => W.cell? ⟨w.heap.size, 0, none⟩ = some (.int .i64 K) ∧ W.cell? ⟨w.heap.size, 1, none⟩ = some (.int .i64 f) ∧ W.cell? ⟨w.heap.size, 2, none⟩ = some (.int .i64 t) ∧ W.cell? ⟨w1.heap.size, 0, none⟩ = some (.int .i64 (11 + (q : Int))) ∧ W.cell? ⟨w1.heap.size, 1, none⟩ = some (.int .i64 0) ∧ W.cell? ⟨w1.heap.size, 2, none⟩ = some (.int .i64 (y.size : Int)))
    ((refine HK.out _ ?_; (refine bel_out ?_; (focus (repeat' first | (with_reducible refine bel_refl ?_) | with_reducible assumption | with_reducible refine bel_drew ?_ | with_reducible refine bel_drewN _ ?_ | with_reducible refine bel_alloc _ ?_ | with_reducible refine bel_set ?_ _ ?_ | (with_reducible apply bel_call; with_reducible assumption) | (with_reducible apply bel_owg; with_reducible assumption; (focus omega)) | with_reducible exact Nat.le_refl _ | omega | (simp; done) | (simp; omega)))); done))
    (first
      | (go_at_call 14; ((with_reducible refine (HA1.out _).mono ?_); rintro e w2 ⟨rfl, hb2⟩))
      | (go_at_call 17; ((with_reducible refine (HA2.out _).mono ?_); rintro e w3 ⟨rfl, hb3⟩))
      | (go_at_call 15; ((with_reducible refine (HB1.out _).mono ?_); rintro e w4 ⟨rfl, hb4⟩))
      | (go_at_call 18; ((with_reducible refine (HB2.out _).mono ?_); rintro e w5 ⟨rfl, hb5⟩))
      | (go_at_call 15; ((with_reducible refine (HC1.out _).mono ?_); rintro e w6 ⟨rfl, hb6⟩))
      | (go_at_call 18; ((with_reducible refine (HC2.out _).mono ?_); rintro e w7 ⟨rfl, hb7⟩))
      | (go_at_call 9; ((with_reducible refine (known_any m _ ?_).mono ?_); (focus (refine HM.out _ ?_; (refine bel_out ?_; (focus (repeat' first | (with_reducible refine bel_refl ?_) | with_reducible assumption | with_reducible refine bel_drew ?_ | with_reducible refine bel_drewN _ ?_ | with_reducible refine bel_alloc _ ?_ | with_reducible refine bel_set ?_ _ ?_ | (with_reducible apply bel_call; with_reducible assumption) | (with_reducible apply bel_owg; with_reducible assumption; (focus omega)) | with_reducible exact Nat.le_refl _ | omega | (simp; done) | (simp; omega)))); done)); rintro e w8 ⟨rfl, hb8⟩)))
  go_wp2
  go_ret
  refine ⟨rfl, ?_⟩
  refine below_call hx2 ?_
  (refine bel_out ?_; (focus (repeat' first | (with_reducible refine bel_refl ?_) | with_reducible assumption | with_reducible refine bel_drew ?_ | with_reducible refine bel_drewN _ ?_ | with_reducible refine bel_alloc _ ?_ | with_reducible refine bel_set ?_ _ ?_ | (with_reducible apply bel_call; with_reducible assumption) | (with_reducible apply bel_owg; with_reducible assumption; (focus omega)) | with_reducible exact Nat.le_refl _ | omega | (simp; done) | (simp; omega))))
end Go.Proofs.Ytpcnfblpoepmbaa
