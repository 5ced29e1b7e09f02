/- The walk of job. -/
import Derived.Test.YtobgnncdldfkkaaDoorQT
import Derived.Test.YtobgnncdldfkkaaDoorQV
import Derived.Test.YtobgnncdldfkkaaDoorQH
namespace Go.Proofs.YtobgnncdldfkkaaDoor
open Go.RowKit
set_option linter.unusedSimpArgs false
set_option linter.unusedVariables false

/-- a job that may be made -/
def MJ (j : Jb) : Prop := (∃ k, k < 4 ∧ j = ⟨1, ⟨#[]⟩, tS k, tN k⟩) ∨ ∃ k1 k, k1 < 2 ∧ k < 4 ∧ j = ⟨2, uN k1, tS k, tN k⟩
theorem MJ.wf {j : Jb} (h : MJ j) : JWf j := by
  rcases h with ⟨k, hk, rfl⟩ | ⟨k1, k, h1, hk, rfl⟩
  · rcases k with _ | _ | _ | _ | k <;> first | omega | (refine ⟨by decide, ?_, by decide, ?_⟩ <;> (unfold maxLen; decide))
  · rcases k1 with _ | _ | k1 <;> rcases k with _ | _ | _ | _ | k <;> first | omega | (refine ⟨by decide, ?_, by decide, ?_⟩ <;> (unfold maxLen; decide))
theorem MJ.good {j : Jb} (h : MJ j) : jv j = true := by
  rcases h with ⟨k, hk, rfl⟩ | ⟨k1, k, h1, hk, rfl⟩
  · rcases k with _ | _ | _ | _ | k <;> first | omega | kernel_rfl
  · rcases k1 with _ | _ | k1 <;> rcases k with _ | _ | _ | _ | k <;> first | omega | kernel_rfl
theorem MJ.stage {j : Jb} (h : MJ j) : j.st = 1 ∨ j.st = 2 := by
  rcases h with ⟨k, hk, rfl⟩ | ⟨k1, k, h1, hk, rfl⟩
  · exact .inl rfl
  · exact .inr rfl
theorem srcAt_lt {w : World} {g : Nat} {A : Option Addr} {n c : Nat} (h : SrcAt w g A n c) : g < w.heap.size := by
  obtain ⟨k, seed, _, hh⟩ := h
  exact Blk.lt hh
theorem srcAt_below {w w' : World} {g : Nat} {A : Option Addr} {n c : Nat} (h : SrcAt w g A n c) (hb : Below w.heap.size w w') : SrcAt w' g A n c := by
  obtain ⟨k, seed, h1, hh⟩ := h
  exact ⟨k, seed, h1, heap_call hb hh⟩
theorem grown_call {w w1 w2 : World} {r : Option Nat} (h : w.grownBy w1 r) (hb : Below w1.heap.size w1 w2) : w.grownBy w2 r :=
  h.trans ⟨hb.os, hb.tape, hb.output, hb.size, fun k hk _ => hb.block k hk⟩
theorem grown_of_below {w w1 : World} (r : Option Nat) (hb : Below w.heap.size w w1) : w.grownBy w1 r := ⟨hb.os, hb.tape, hb.output, hb.size, fun k hk _ => hb.block k hk⟩
/-- a world in which a source is at work, out of the world w -/
structure SW (w0 w W : World) (g : Nat) (A : Option Addr) (n c : Nat) : Prop where
  b : Below w0.heap.size w0 W
  s : SrcAt W g A n c
  gr : w.grownBy W (some g)
theorem SW.call {w0 w W W' : World} {g : Nat} {A : Option Addr} {n c : Nat} (h : SW w0 w W g A n c) (hb : Below W.heap.size W W') : SW w0 w W' g A n c :=
  ⟨below_call h.b hb, srcAt_below h.s hb, grown_call h.gr hb⟩
theorem SW.drew {w0 w W : World} {g : Nat} {A : Option Addr} {n c : Nat} (h : SW w0 w W g A n c) : SW w0 w W.drew g A n c :=
  h.call (bel_out (bel_drew (bel_refl (Nat.le_refl _))))
theorem SW.next {w0 w W W' : World} {g : Nat} {A : Option Addr} {n c : Nat} (h : SW w0 w W g A n c) (hg : w0.heap.size ≤ g) (hs : SrcAt W' g A n c) (hr : W.grownBy W' (some g)) : SW w0 w W' g A n c :=
  ⟨below_grown h.b h.b.size hr hg, hs, h.gr.trans hr⟩
theorem SW.set {w0 w W : World} {g : Nat} {A : Option Addr} {n c : Nat} (h : SW w0 w W g A n c) {p : Addr} (h1 : w.heap.size ≤ p.block) (h2 : w0.heap.size ≤ w.heap.size) (hg : g < w.heap.size) (u : Value) : SW w0 w (W.setCell p u) g A n c := by
  refine ⟨h.b.setCell (by omega) u, ?_, ⟨h.gr.os, h.gr.tape, h.gr.output, by rw [size_set]; exact h.gr.size, fun k hk hne => (Below.heap_setCell W p u k (by omega)).trans (h.gr.block k hk hne)⟩⟩
  obtain ⟨k, seed, h3, hh⟩ := h.s
  exact ⟨k, seed, h3, (Below.heap_setCell W p u g (by omega)).trans hh⟩
/-- a made job; only block g has changed -/
def RJob (w : World) (g : Nat) (A : Option Addr) (n c : Nat) (e : Ending) (w' : World) : Prop := ∃ j : Jb, MJ j ∧ e = .returned j.val ∧ SrcAt w' g A n c ∧ w.grownBy w' (some g)

set_option maxRecDepth 100000 in
set_option maxHeartbeats 8000000 in
theorem job_any (w0 : World) (g : Nat) (A : Option Addr) (n c : Nat) (zs : List Int) (w : World) (hr : RdN w0 A n c zs) (hb0 : Below w0.heap.size w0 w) (hg : w0.heap.size ≤ g) (hs : SrcAt w g A n c) :
    Calls Tryd.prog 13 #[.pointer (some ⟨g, 0, none⟩)] w (RJob w g A n c) := by
  have HN : Hid (∀ (M : Int) (W : World), 0 < M → M ≤ 100 → SW w0 w W g A n c → Calls Tryd.prog 26 #[.pointer (some ⟨g, 0, none⟩), .int .i64 M] W (RNext W g A n c M)) := Lib.hid fun M W h1 h2 hW => next_any w0 g A n c zs M W hr hW.b hg hW.s h1 (by omega)
  have HTT := Lib.hid titles_any
  have HUU := Lib.hid users_any
  have hgl := srcAt_lt hs
  have hne0 : w.heap.size ≠ g := by omega
  have hne1 : g ≠ w.heap.size := by omega
  have hsw0 : SW w0 w w g A n c := ⟨hb0, hs, World.grownBy.refl w _⟩
  have hsw : SW w0 w (w.alloc (.cells #[.int .i64 0, .string ⟨#[]⟩, .int .i64 0, .string ⟨#[]⟩] 28)) g A n c := hsw0.call ((Below.refl _ _).alloc (Nat.le_refl _) _)
  have kh0 : (w.alloc (.cells #[.int .i64 0, .string ⟨#[]⟩, .int .i64 0, .string ⟨#[]⟩] 28)).heap[w.heap.size]? = some (.cells #[.int .i64 0, .string ⟨#[]⟩, .int .i64 0, .string ⟨#[]⟩] 28 (0, 0)) := heap_new rfl
  have hb0z := hb0.size
  clear hr hb0 hs
  go_enter Tryd.func13, Tryd.ntmps13
  go_wp2_with fail
  generalize w.alloc (.cells #[.int .i64 0, .string ⟨#[]⟩, .int .i64 0, .string ⟨#[]⟩] 28) = w1 at hsw kh0 ⊢
  go_at_call 26
  refine (HN.out _ _ (by omega) (by omega) hsw).mono ?_
  rintro e w2 ⟨q2, rfl, q2a, q2b, hs2, hg2⟩
  have hsw2 := hsw.next hg hs2 hg2
  have kh2 := heap_grown hg2 hne0 kh0
  have hz2 := Blk.lt kh2
  clear hsw kh0 hg2 hs2
  by_cases hq : q2 = 0
  · subst hq
    go_wp2_with fail
    go_at_call 33
    refine (HTT.out _).mono ?_
    rintro e w3 ⟨gt, rfl, hgt, hT, hb3⟩
    have hsw3 := hsw2.call hb3
    have kh3 := heap_call hb3 kh2
    have hgt2 : gt ≠ g := by have := srcAt_lt hsw2.s; omega
    have hgt3 : gt ≠ w.heap.size := by omega
    go_wp2_with fail
    go_at_call 26
    refine (HN.out _ _ (by omega) (by omega) hsw3).mono ?_
    rintro e w4 ⟨q4, rfl, q4a, q4b, hs4, hg4⟩
    have hsw4 := hsw3.next hg hs4 hg4
    have kh4 := heap_grown hg4 hne0 kh3
    have hT4 : TitB w4 gt := heap_grown hg4 hgt2 hT
    obtain ⟨k, rfl⟩ := Int.eq_ofNat_of_zero_le q4a
    obtain ⟨c1, c2⟩ := hT4.at (k := k) (by omega)
    have hMJ : MJ ⟨1, ⟨#[]⟩, tS k, tN k⟩ := .inl ⟨k, by omega, rfl⟩
    have kc := Blk.cell kh4
    have kf := Blk.frozen kh4
    have z1 : (k : Int) < 8 := by omega
    clear hT4 hT hg4 hs4 kh3 hb3 kh2 hsw2 hsw3
    generalize tS k = ts at *
    generalize tN k = tn at *
    go_wp2_with fail
    have hF := (((hsw4.set (p := ⟨w.heap.size, 0, none⟩) (Nat.le_refl _) hb0z hgl (.int .i64 1)).set (p := ⟨w.heap.size, 1, none⟩) (Nat.le_refl _) hb0z hgl (.string ⟨#[]⟩)).set (p := ⟨w.heap.size, 2, none⟩) (Nat.le_refl _) hb0z hgl (.int .i64 ts)).set (p := ⟨w.heap.size, 3, none⟩) (Nat.le_refl _) hb0z hgl (.string tn)
    refine bodyPost_ret (v := .agg #[.int .i64 1, .string ⟨#[]⟩, .int .i64 ts, .string tn]) ?_ rfl ⟨_, hMJ, rfl, hF.s, hF.gr⟩
    simp [results, Tryd.results13, go_sem, kc]
  · have hq1 : (q2 == 0) = false := by simpa using hq
    go_wp2_with fail
    go_region_with (first
        | (go_at_call 34; ((with_reducible refine (HUU.out _).mono ?_); rintro e w3 ⟨gu, rfl, hgu, hU, hb3⟩; (have hsw3 := hsw2.drew.call hb3); (have kh3 := heap_call hb3 kh2); (have hgu2 : gu ≠ g := by have := srcAt_lt hsw2.drew.s; omega)))
        | (go_at_call 26; ((with_reducible refine (HN.out _ _ ?_ ?_ hsw3).mono ?_); (focus omega); (focus omega); rintro e w4 ⟨q4, rfl, q4a, q4b, hs4, hg4⟩; (have hsw4 := hsw3.next hg hs4 hg4); (have kh4 := heap_grown hg4 hne0 kh3); (have hU4 : UseB w4 gu := heap_grown hg4 hgu2 hU); obtain ⟨k1, rfl⟩ := Int.eq_ofNat_of_zero_le q4a; (have c4 := hU4.at (k := k1) (by omega)); (have y1 : (k1 : Int) < 4 := by omega)))
        | (go_at_call 33; ((with_reducible refine (HTT.out _).mono ?_); rintro e w5 ⟨gt, rfl, hgt, hT, hb5⟩; (have hsw5 := hsw4.call hb5); (have kh5 := heap_call hb5 kh4); (have hgt2 : gt ≠ g := by have := srcAt_lt hsw4.s; omega); (have hU5 : UseB w5 gu := heap_call hb5 hU4); (have c5 := hU5.at (k := k1) (by omega))))
        | (go_at_call 26; ((with_reducible refine (HN.out _ _ ?_ ?_ hsw5).mono ?_); (focus omega); (focus omega); rintro e w6 ⟨q6, rfl, q6a, q6b, hs6, hg6⟩; (have hsw6 := hsw5.next hg hs6 hg6); (have kh6 := heap_grown hg6 hne0 kh5); (have hU6 : UseB w6 gu := heap_grown hg6 hgu2 hU5); (have hT6 : TitB w6 gt := heap_grown hg6 hgt2 hT); obtain ⟨k, rfl⟩ := Int.eq_ofNat_of_zero_le q6a; (have c6 := hU6.at (k := k1) (by omega)); obtain ⟨d1, d2⟩ := hT6.at (k := k) (by omega); (have x1 : (k : Int) < 8 := by omega); (have kc := Blk.cell kh6); (have kf := Blk.frozen kh6))))
    all_goals
      have hMJ : MJ ⟨2, uN k1, tS k, tN k⟩ := .inr ⟨k1, k, by omega, by omega, rfl⟩
      go_wp2
      have hF := (((hsw6.set (p := ⟨w.heap.size, 0, none⟩) (Nat.le_refl _) hb0z hgl (.int .i64 2)).set (p := ⟨w.heap.size, 1, none⟩) (Nat.le_refl _) hb0z hgl (.string (uN k1))).set (p := ⟨w.heap.size, 2, none⟩) (Nat.le_refl _) hb0z hgl (.int .i64 (tS k))).set (p := ⟨w.heap.size, 3, none⟩) (Nat.le_refl _) hb0z hgl (.string (tN k))
      refine bodyPost_ret (v := .agg #[.int .i64 2, .string (uN k1), .int .i64 (tS k), .string (tN k)]) ?_ rfl ⟨_, hMJ, rfl, hF.s, hF.gr⟩
      simp [results, Tryd.results13, go_sem, kc]
end Go.Proofs.YtobgnncdldfkkaaDoor
