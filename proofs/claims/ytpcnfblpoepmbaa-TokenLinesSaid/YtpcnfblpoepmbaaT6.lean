/- The walks of known, Text, TokenScan, TokenCovers, TokenLimit. -/
import Derived.Test.YtpcnfblpoepmbaaT5
import Derived.Lib.Repeat
namespace Go.Proofs.Ytpcnfblpoepmbaa
open Go.RowKit
set_option linter.unusedSimpArgs false
set_option linter.unusedVariables false

theorem flat_chunk : ∀ (L : List Tok) (k : Nat) (x : Tok), L[k]? = some x → ((L.flatMap tv).drop (k * 3)).take 3 = tv x
  | [], k, x, h => by simp at h
  | y :: L, 0, x, h => by
    simp at h
    subst h
    simp [tv]
  | y :: L, k + 1, x, h => by
    have ih := flat_chunk L k x (by simpa using h)
    rw [List.flatMap_cons, Nat.add_mul, Nat.one_mul, Nat.add_comm, ← List.drop_drop]
    have : (tv y ++ L.flatMap tv).drop 3 = L.flatMap tv := by simp [tv]
    rw [this]
    exact ih
theorem RdT.lit {w : World} {t : Nat} {L : List Tok} {cs : Array Value} (h : cs.toList = L.flatMap tv) (hn : L.length ≤ 1000) : RdR RT 3 (w.alloc (.cells cs t)) (some ⟨w.heap.size, 0, none⟩) L.length L.length L := by
  refine ⟨rfl, Nat.le_refl _, by unfold maxLen; omega, cs.toList, ⟨?_, fun _ => ⟨_, rfl, by rw [size_alloc_]; exact Nat.lt_succ_self _, fun j u hu => ?_⟩⟩, fun k x hk => by rw [h]; exact flat_chunk L k x hk⟩
  · rw [h]
    clear h hn
    induction L with
    | nil => rfl
    | cons y L ih => rw [List.flatMap_cons, List.length_append, ih]; simp [tv]; omega
  · have e : (⟨w.heap.size, 0, none⟩ : Addr).add j = ⟨w.heap.size, j, none⟩ := by
      unfold Addr.add
      by_cases h0 : j = 0 <;> simp [h0]
    have h1 : (w.alloc (.cells cs t)).heap[w.heap.size]? = some (.cells cs t) := by rw [heap_alloc_get, if_pos rfl]
    rw [e, cell_of_row _ _ j _ _ _ h1]
    simpa using hu

theorem known_sc : SC (bl ⟨#[97, 123, 123, 123, 98, 125, 125, 124, 99]⟩) = [(1, 0, 1), (3, 1, 4), (1, 4, 5), (4, 5, 7), (7, 7, 8), (1, 8, 9)] := by decide +kernel
set_option maxHeartbeats 1600000 in
theorem known_any (m : Int) (w : World) (hm : w.cell? ⟨0, 0, none⟩ = some (.int .i64 m)) :
    Calls Try.prog 9 #[] w fun e w' => e = .returned (.bool true) ∧ Below w.heap.size w w' := by
  have HS : Hid (Calls Try.prog 10 #[.string ⟨#[97, 123, 123, 123, 98, 125, 125, 124, 99]⟩] w fun e w' => ∃ A c, e = .returned (.tuple #[.slice A 6 c, .int .i64 0]) ∧ OwR RT 3 w' w.heap.size 31 A 6 c [(1, 0, 1), (3, 1, 4), (1, 4, 5), (4, 5, 7), (7, 7, 8), (1, 8, 9)] ∧ Below w.heap.size w w') := Lib.hid (by
    have := scan_any ⟨#[97, 123, 123, 123, 98, 125, 125, 124, 99]⟩ m w (by decide) hm
    rw [known_sc] at this
    exact this)
  go_enter Try.func9, Try.ntmps9
  go_wp2_with (first
    | (go_at_call 10; go_must (refine HS.out.mono ?_; rintro e w1 ⟨A, c, rfl, ho, hb1⟩))
    | (go_at_call 12; go_must (refine (same_true _ _ _ _ _ [(1, 0, 1), (3, 1, 4), (1, 4, 5), (4, 5, 7), (7, 7, 8), (1, 8, 9)] _ (OwT.alloc ho _).rd (RdT.lit (L := [(1, 0, 1), (3, 1, 4), (1, 4, 5), (4, 5, 7), (7, 7, 8), (1, 8, 9)]) rfl (by decide))).mono ?_; rintro e w2 ⟨rfl, hb2⟩)))
  go_ret
  exact ⟨rfl, by (refine bel_out ?_; (focus (repeat' first | (with_reducible refine bel_refl ?_) | with_reducible assumption | with_reducible refine bel_drew ?_ | with_reducible refine bel_drewN _ ?_ | with_reducible refine bel_alloc _ ?_ | with_reducible refine bel_set ?_ _ ?_ | (with_reducible apply bel_call; with_reducible assumption) | (with_reducible apply bel_owg; with_reducible assumption; (focus omega)) | with_reducible exact Nat.le_refl _ | omega | (simp; done) | (simp; omega))))⟩

theorem scan_big (s : ByteArray) (w : World) (hs : 8192 < s.size) (hs9 : s.size ≤ 8796093022207) :
    Calls Try.prog 10 #[.string s] w fun e w' => e = .returned (.tuple #[.slice none 0 0, .int .i64 3]) ∧ w = w' := by
  have h1 : (8192 : Int) < (s.size : Int) := by omega
  clear hs
  go_enter Try.func10, Try.ntmps10
  go_wp2
  go_ret2
  exact ⟨rfl, rfl⟩

set_option maxHeartbeats 1600000 in
theorem lawscan_walk (s : ByteArray) (m : Int) (w : World) (hm : w.cell? ⟨0, 0, none⟩ = some (.int .i64 m)) :
    Calls Try.prog 3 #[.string s] w fun e w' => e = .returned (.bool true) ∧ Below w.heap.size w w' := by
  have h0 : 0 < w.heap.size := World.block_lt_of_cell? _ _ hm
  have hx := Below.refl w.heap.size w
  by_cases h1 : (1500 : Int) < (s.size : Int)
  · go_enter Try.func3, Try.ntmps3
    go_wp2_with (first | (go_at_call 9; ((with_reducible refine (known_any m _ ((hx.cell (p := ⟨0, 0, none⟩) h0).trans hm)).mono ?_); rintro e wn ⟨rfl, hbn⟩; replace hx := below_call hx hbn; clear hbn)))
    go_ret
    exact ⟨rfl, hx⟩
  have HA := Lib.hid (scan_any s m w (by omega) hm)
  have HB := Lib.hid fun W => rscan_any s W (by omega)
  generalize SC (bl s) = S at *
  go_enter Try.func3, Try.ntmps3
  go_wp2_with (first
    | (go_at_call 10; go_must (refine HA.out.mono ?_; rintro e w1 ⟨A, c, rfl, ho, hb1⟩))
    | (go_at_call 11; go_must (refine (HB.out _).mono ?_; rintro e w2 ⟨A2, c2, rfl, ho2, hb2⟩; have ho3 := (ho.call RT.stay hb2).rd; have ho4 := ho2.rd; replace hx := below_call hb1 hb2))
    | (go_at_call 12; go_must (refine (same_true _ _ _ _ _ S _ ho3 ho4).mono ?_; rintro e w3 ⟨rfl, hb3⟩; replace hx := below_call hx hb3))
    | (go_at_call 9; ((with_reducible refine (known_any m _ ((hx.cell (p := ⟨0, 0, none⟩) h0).trans hm)).mono ?_); rintro e wn ⟨rfl, hbn⟩; replace hx := below_call hx hbn; clear hbn)))
  go_ret
  exact ⟨rfl, hx⟩
end Go.Proofs.Ytpcnfblpoepmbaa
