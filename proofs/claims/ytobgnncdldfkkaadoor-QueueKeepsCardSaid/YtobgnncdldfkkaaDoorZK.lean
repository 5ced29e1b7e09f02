/- The walk of QueueKeeps. Printed by gen_zk.py -/
import Derived.Test.YtobgnncdldfkkaaDoorQW
import Derived.Test.YtobgnncdldfkkaaDoorQY
import Derived.Test.YtobgnncdldfkkaaDoorQD
import Derived.Test.YtobgnncdldfkkaaDoorQT
import Derived.Test.YtobgnncdldfkkaaDoorKG
namespace Go.Proofs.YtobgnncdldfkkaaDoor
open Go.RowKit
set_option linter.unusedSimpArgs false
set_option linter.unusedVariables false

theorem qv_trueK {L M : List Jb} (hL : ∀ j ∈ L, MJ j) (hM : ∀ j ∈ M, MJ j) (hn : L.Nodup) : qv L M = true := by
  unfold qv
  rw [List.all_eq_true.2 (fun j hj => (hL j hj).good), List.all_eq_true.2 (fun j hj => (hM j hj).good), decide_eq_true hn]
  rfl
theorem mem_addL (W : List Jb) (j : Jb) : j ∈ addL W j := by
  unfold addL
  split
  · assumption
  · simp
theorem doneL_length' (T : List Jb) (j : Jb) : T.length ≤ (doneL T j).length + 1 := by
  unfold doneL
  split
  · rw [List.length_eraseIdx]
    split <;> omega
  · omega
/-- what Take says of what it leaves -/
theorem tk_law {L M : List Jb} (hn : L.Nodup) (h : tkOk L M = true) : tkJ L M ∈ L ∧ tkJ L M ∈ tkT L M ∧ ¬ (tkJ L M ∈ tkW L M) ∧ (tkW L M).length + 1 = L.length ∧ (tkT L M).length = M.length + 1 := by
  cases hh : tkAt L M with
  | none => rw [tkOk, hh] at h; cases h
  | some i =>
    obtain ⟨h1, h2, h3, h4⟩ := tk_some hh
    have hi := tkAt_lt hh
    have hg : L.getD i jb0 = L[i] := by simp [List.getD, List.getElem?_eq_getElem hi]
    rw [h1, h2, h3, hg]
    refine ⟨List.getElem_mem hi, by simp, ?_, ?_, by simp⟩
    · intro hm
      rw [List.mem_eraseIdx_iff_getElem] at hm
      obtain ⟨k, hk, hne, e⟩ := hm
      exact hne ((List.getElem_inj hn).1 e)
    · rw [List.length_eraseIdx_of_lt hi]
      omega
theorem tk_law0 {L M : List Jb} (h : tkOk L M = false) : tkW L M = L ∧ tkT L M = M := by
  cases hh : tkAt L M with
  | none => exact ⟨(tk_none hh).1, (tk_none hh).2.1⟩
  | some i => rw [tkOk, hh] at h; cases h

/-- a queue that reads so -/
def QVal (w : World) (X Y : List Jb) (v : Value) : Prop := ∃ A n c B m d, v = .agg #[.slice A n c, .slice B m d] ∧ RdR RJ 4 w A n c X ∧ RdR RJ 4 w B m d Y
theorem QVal.below {w w' : World} {X Y : List Jb} {v : Value} (h : QVal w X Y v) (hb : Below w.heap.size w w') : QVal w' X Y v := by
  obtain ⟨A, n, c, B, m, d, e, h1, h2⟩ := h
  exact ⟨A, n, c, B, m, d, e, RdJ.below h1 hb, RdJ.below h2 hb⟩
/-- a box of a queue, of the call's own -/
def PQ (s : Nat) (w : World) (v : Value) : Prop := ∃ b, v = .pointer (some ⟨b, 0, none⟩) ∧ s ≤ b ∧ w.heap[b]? = some (.cells #[.slice none 0 0, .slice none 0 0] 24 (0, 0))
theorem PQ.below {s : Nat} {w w' : World} {v : Value} (h : PQ s w v) (hb : Below w.heap.size w w') : PQ s w' v := by
  obtain ⟨b, e, h1, h2⟩ := h
  exact ⟨b, e, h1, heap_call hb h2⟩
theorem PQ.fresh {s : Nat} {w : World} {v : Value} (h : PQ s w v) : v ≠ .pointer (some ⟨w.heap.size, 0, none⟩) := by
  obtain ⟨b, e, h1, h2⟩ := h
  intro e2
  rw [e] at e2
  injection e2 with e2
  injection e2 with e2
  injection e2 with e2
  have := Blk.lt h2
  omega
abbrev ZQ (w : World) : World := w.alloc (.cells #[.slice none 0 0, .slice none 0 0] 24)
structure GF (y : World) (L M : List Jb) (j : Jb) (c : Nat) (b9 b10 b11 : Bool) (v26 v29 v32 v10 v11 v12 : Value) (w : World) : Prop where
  b : Below y.heap.size y w
  q0 : 0 < c → QVal w (addL L j) M v26
  q1 : 1 < c → QVal w L (doneL M j) v29
  q2 : 2 < c → QVal w (addL L j) (doneL M j) v32
  p0 : b9 = true → PQ y.heap.size w v10
  p1 : b10 = true → PQ y.heap.size w v11
  p2 : b11 = true → PQ y.heap.size w v12
  n01 : b9 = true → b10 = true → v10 ≠ v11
  n02 : b9 = true → b11 = true → v10 ≠ v12
  n12 : b10 = true → b11 = true → v11 ≠ v12
section
variable {y w w' : World} {L M : List Jb} {j : Jb} {c : Nat} {b9 b10 b11 : Bool} {v v26 v29 v32 v10 v11 v12 : Value}
theorem GF.c0 (h : GF y L M j 0 b9 b10 b11 v26 v29 v32 v10 v11 v12 w) (hb : Below w.heap.size w w') (hq : QVal w' (addL L j) M v) : GF y L M j 1 b9 b10 b11 v v29 v32 v10 v11 v12 w' :=
  ⟨below_call h.b hb, fun _ => hq, fun h => absurd h (by omega), fun h => absurd h (by omega), fun e => (h.p0 e).below hb, fun e => (h.p1 e).below hb, fun e => (h.p2 e).below hb, h.n01, h.n02, h.n12⟩
theorem GF.c1 (h : GF y L M j 1 b9 b10 b11 v26 v29 v32 v10 v11 v12 w) (hb : Below w.heap.size w w') (hq : QVal w' L (doneL M j) v) : GF y L M j 2 b9 b10 b11 v26 v v32 v10 v11 v12 w' :=
  ⟨below_call h.b hb, fun _ => (h.q0 (by omega)).below hb, fun _ => hq, fun h => absurd h (by omega), fun e => (h.p0 e).below hb, fun e => (h.p1 e).below hb, fun e => (h.p2 e).below hb, h.n01, h.n02, h.n12⟩
theorem GF.c2 (h : GF y L M j 2 b9 b10 b11 v26 v29 v32 v10 v11 v12 w) (hb : Below w.heap.size w w') (hq : QVal w' (addL L j) (doneL M j) v) : GF y L M j 3 b9 b10 b11 v26 v29 v v10 v11 v12 w' :=
  ⟨below_call h.b hb, fun _ => (h.q0 (by omega)).below hb, fun _ => (h.q1 (by omega)).below hb, fun _ => hq, fun e => (h.p0 e).below hb, fun e => (h.p1 e).below hb, fun e => (h.p2 e).below hb, h.n01, h.n02, h.n12⟩
theorem GF.more (h : GF y L M j c b9 b10 b11 v26 v29 v32 v10 v11 v12 w) (hb : Below w.heap.size w w') : GF y L M j c b9 b10 b11 v26 v29 v32 v10 v11 v12 w' :=
  ⟨below_call h.b hb, fun e => (h.q0 e).below hb, fun e => (h.q1 e).below hb, fun e => (h.q2 e).below hb, fun e => (h.p0 e).below hb, fun e => (h.p1 e).below hb, fun e => (h.p2 e).below hb, h.n01, h.n02, h.n12⟩
theorem below_zq (w : World) : Below w.heap.size w (ZQ w) := (Below.refl _ _).alloc (Nat.le_refl _) _
theorem PQ.zq (h : y.heap.size ≤ w.heap.size) : PQ y.heap.size (ZQ w) (.pointer (some ⟨w.heap.size, 0, none⟩)) := ⟨_, rfl, h, heap_new rfl⟩
theorem GF.a9 (h : GF y L M j c false b10 b11 v26 v29 v32 v10 v11 v12 w) : GF y L M j c true b10 b11 v26 v29 v32 (.pointer (some ⟨w.heap.size, 0, none⟩)) v11 v12 (ZQ w) :=
  have k := h.more (below_zq w)
  ⟨k.b, k.q0, k.q1, k.q2, fun _ => PQ.zq h.b.size, k.p1, k.p2, fun _ e => ((h.p1 e).fresh).symm, fun _ e => ((h.p2 e).fresh).symm, h.n12⟩
theorem GF.a10 (h : GF y L M j c b9 false b11 v26 v29 v32 v10 v11 v12 w) : GF y L M j c b9 true b11 v26 v29 v32 v10 (.pointer (some ⟨w.heap.size, 0, none⟩)) v12 (ZQ w) :=
  have k := h.more (below_zq w)
  ⟨k.b, k.q0, k.q1, k.q2, k.p0, fun _ => PQ.zq h.b.size, k.p2, fun e _ => (h.p0 e).fresh, h.n02, fun _ e => ((h.p2 e).fresh).symm⟩
theorem GF.a11 (h : GF y L M j c b9 b10 false v26 v29 v32 v10 v11 v12 w) : GF y L M j c b9 b10 true v26 v29 v32 v10 v11 (.pointer (some ⟨w.heap.size, 0, none⟩)) (ZQ w) :=
  have k := h.more (below_zq w)
  ⟨k.b, k.q0, k.q1, k.q2, k.p0, k.p1, fun _ => PQ.zq h.b.size, h.n01, fun e _ => (h.p0 e).fresh, fun e _ => (h.p1 e).fresh⟩
end

set_option maxRecDepth 100000 in
set_option maxHeartbeats 32000000 in
theorem queuekeeps_walk (A1 : Option Addr) (n1 c1 : Nat) (zs1 : List Int) (A2 : Option Addr) (n2 c2 : Nat) (zs2 : List Int) (x : Int) (w : World) (hr1 : RdN w A1 n1 c1 zs1) (hr2 : RdN w A2 n2 c2 zs2) (hx : Hm x w) :
    Calls Tryd.prog 5 #[.slice A1 n1 c1, .slice A2 n2 c2] w fun e w' => e = .returned (.bool true) ∧ Below w.heap.size w w' := by
  have HAW := Lib.hid fun (W : World) (hW : Below w.heap.size w W) => awake_any x W (hx.below hW)
  have HX := Lib.hid fun (W : World) (hW : Below w.heap.size w W) => hx.below hW
  have HM := Lib.hid (made_any A1 n1 c1 zs1 w hr1)
  have HFR : Hid (∀ W, Below w.heap.size w W → RdN W A2 n2 c2 zs2) := Lib.hid fun W hW => ⟨hr2.len, hr2.cap, hr2.max, (hr2.reads.below hW).more hW.size⟩
  clear hr1 hr2 hx
  go_enter Tryd.func5, Tryd.ntmps5
  go_wp2_with fail
  go_at_call 15
  refine HM.out.mono ?_
  rintro e w1 ⟨L, M, A, n, c, B, m, d, rfl, hL1, hM1, hLj, hMj, hnd, hl1, hl2, hb1⟩
  have HR2 := Lib.hid (HFR.out _ hb1)
  have HF := Lib.hid (from_any A2 n2 c2 zs2 w1 HR2.out)
  go_wp2_with fail
  go_at_call 14
  refine HF.out.mono ?_
  rintro e w2 ⟨v, rfl, ⟨g, rfl, hg, hs2⟩, hb2⟩
  have HJ := Lib.hid (job_any w1 g A2 n2 c2 zs2 w2 HR2.out hb2 hg hs2)
  go_wp2_with fail
  go_at_call 13
  refine HJ.out.mono ?_
  rintro e w3 ⟨j, hj, rfl, hs3, hg3⟩
  have hb13 : Below w1.heap.size w1 w3 := below_grown hb2 hb2.size hg3 hg
  have hb03 := below_call hb1 hb13
  have hL3 := RdJ.below hL1 hb13
  have hM3 := RdJ.below hM1 hb13
  have hn : n ≤ 11 := by have := hL3.len; omega
  have hm : m ≤ 11 := by have := hM3.len; omega
  clear HF HJ HR2 HFR HM hs2 hs3 hg3 hg hb2 hb13 hL1 hM1 hb1
  unfold Jb.val
  have hal5 : Below w3.heap.size w3 (w3.alloc (.cells #[.slice A n c, .slice B m d] 24)) := (Below.refl _ _).alloc (Nat.le_refl _) _
  have hal6 : Below (w3.alloc (.cells #[.slice A n c, .slice B m d] 24)).heap.size (w3.alloc (.cells #[.slice A n c, .slice B m d] 24)) ((w3.alloc (.cells #[.slice A n c, .slice B m d] 24)).alloc (.cells #[.int .i64 j.st, .string j.us, .int .i64 j.sp, .string j.nm] 28)) := (Below.refl _ _).alloc (Nat.le_refl _) _
  have k5 : ((w3.alloc (.cells #[.slice A n c, .slice B m d] 24)).alloc (.cells #[.int .i64 j.st, .string j.us, .int .i64 j.sp, .string j.nm] 28)).heap[w3.heap.size]? = some (.cells #[.slice A n c, .slice B m d] 24 (0, 0)) := heap_old (heap_new rfl)
  have k6 : ((w3.alloc (.cells #[.slice A n c, .slice B m d] 24)).alloc (.cells #[.int .i64 j.st, .string j.us, .int .i64 j.sp, .string j.nm] 28)).heap[w3.heap.size + 1]? = some (.cells #[.int .i64 j.st, .string j.us, .int .i64 j.sp, .string j.nm] 28 (0, 0)) := heap_new (by rw [size_alloc_])
  have hb4 := below_call hal5 hal6
  have hb04 := below_call hb03 hb4
  have hL4 := RdJ.below hL3 hb4
  have hM4 := RdJ.below hM3 hb4
  go_upto_region 2 with fail
  clear hal5 hal6 hb4 hb03 hL3 hM3
  generalize (w3.alloc (.cells #[.slice A n c, .slice B m d] 24)).alloc (.cells #[.int .i64 j.st, .string j.us, .int .i64 j.sp, .string j.nm] 28) = w4 at *
  generalize w3.heap.size = q5 at *
  have kc5 := Blk.cell k5
  have HT := Lib.hid (take_any A n c L B m d M x w4 hL4 hM4 (HX.out _ hb04) (by omega) (by omega))
  go_wp2_with fail
  go_at_call 18
  refine HT.out.mono ?_
  rintro e wt ⟨At, nt, ct, Bt, mt, dt, rfl, hLt, hMt, hbt⟩
  have hb0t := below_call hb04 hbt
  have k5t := heap_call hbt k5
  have k6t := heap_call hbt k6
  have hL5 := RdJ.below hL4 hbt
  have hM5 := RdJ.below hM4 hbt
  clear HT kc5 hbt k5 k6 hL4 hM4 hb04
  unfold Jb.val
  have h7 : ((wt.alloc (.cells #[.slice At nt ct, .slice Bt mt dt] 24)).alloc (.cells #[.int .i64 (tkJ L M).st, .string (tkJ L M).us, .int .i64 (tkJ L M).sp, .string (tkJ L M).nm] 28)).heap[wt.heap.size]? = some (.cells #[.slice At nt ct, .slice Bt mt dt] 24 (0, 0)) := heap_old (heap_new rfl)
  have h8 : ((wt.alloc (.cells #[.slice At nt ct, .slice Bt mt dt] 24)).alloc (.cells #[.int .i64 (tkJ L M).st, .string (tkJ L M).us, .int .i64 (tkJ L M).sp, .string (tkJ L M).nm] 28)).heap[wt.heap.size + 1]? = some (.cells #[.int .i64 (tkJ L M).st, .string (tkJ L M).us, .int .i64 (tkJ L M).sp, .string (tkJ L M).nm] 28 (0, 0)) := heap_new (by rw [size_alloc_])
  have hbu : Below wt.heap.size wt ((wt.alloc (.cells #[.slice At nt ct, .slice Bt mt dt] 24)).alloc (.cells #[.int .i64 (tkJ L M).st, .string (tkJ L M).us, .int .i64 (tkJ L M).sp, .string (tkJ L M).nm] 28)) := ((Below.refl _ _).alloc (Nat.le_refl _) _).alloc (by rw [size_alloc_]; omega) _
  go_upto_region 3 with fail
  have hbd : Below wt.heap.size wt ((wt.alloc (.cells #[.slice At nt ct, .slice Bt mt dt] 24)).alloc (.cells #[.int .i64 (tkJ L M).st, .string (tkJ L M).us, .int .i64 (tkJ L M).sp, .string (tkJ L M).nm] 28)).drew := below_drewN hbu 1
  have k7 : ((wt.alloc (.cells #[.slice At nt ct, .slice Bt mt dt] 24)).alloc (.cells #[.int .i64 (tkJ L M).st, .string (tkJ L M).us, .int .i64 (tkJ L M).sp, .string (tkJ L M).nm] 28)).drew.heap[wt.heap.size]? = some (.cells #[.slice At nt ct, .slice Bt mt dt] 24 (0, 0)) := h7
  have k8 : ((wt.alloc (.cells #[.slice At nt ct, .slice Bt mt dt] 24)).alloc (.cells #[.int .i64 (tkJ L M).st, .string (tkJ L M).us, .int .i64 (tkJ L M).sp, .string (tkJ L M).nm] 28)).drew.heap[wt.heap.size + 1]? = some (.cells #[.int .i64 (tkJ L M).st, .string (tkJ L M).us, .int .i64 (tkJ L M).sp, .string (tkJ L M).nm] 28 (0, 0)) := h8
  have k5 := heap_call hbd k5t
  have k6 := heap_call hbd k6t
  have hLd := RdJ.below hL5 hbd
  have hMd := RdJ.below hM5 hbd
  have hLtd := RdJ.below hLt hbd
  have hMtd := RdJ.below hMt hbd
  have hb0y := below_call hb0t hbd
  have hKK : Hid (∀ W, Below ((wt.alloc (.cells #[.slice At nt ct, .slice Bt mt dt] 24)).alloc (.cells #[.int .i64 (tkJ L M).st, .string (tkJ L M).us, .int .i64 (tkJ L M).sp, .string (tkJ L M).nm] 28)).drew.heap.size ((wt.alloc (.cells #[.slice At nt ct, .slice Bt mt dt] 24)).alloc (.cells #[.int .i64 (tkJ L M).st, .string (tkJ L M).us, .int .i64 (tkJ L M).sp, .string (tkJ L M).nm] 28)).drew W → W.cell? ⟨q5, 0, none⟩ = some (.slice A n c) ∧ W.cell? ⟨q5, 1, none⟩ = some (.slice B m d) ∧ W.cell? ⟨q5 + 1, 0, none⟩ = some (.int .i64 j.st) ∧ W.cell? ⟨q5 + 1, 1, none⟩ = some (.string j.us) ∧ W.cell? ⟨q5 + 1, 2, none⟩ = some (.int .i64 j.sp) ∧ W.cell? ⟨q5 + 1, 3, none⟩ = some (.string j.nm)) := Lib.hid fun W hW => by
    have h1 := heap_call hW k5
    have h2 := heap_call hW k6
    exact ⟨Blk.cell h1 0, Blk.cell h1 1, Blk.cell h2 0, Blk.cell h2 1, Blk.cell h2 2, Blk.cell h2 3⟩
  clear h7 h8 hbu hbd k5t k6t hL5 hM5 hLt hMt hb0t
  refine wp_region_held_drew (S := fun W => W.cell? ⟨q5, 0, none⟩ = some (.slice A n c) ∧ W.cell? ⟨q5, 1, none⟩ = some (.slice B m d) ∧ W.cell? ⟨q5 + 1, 0, none⟩ = some (.int .i64 j.st) ∧ W.cell? ⟨q5 + 1, 1, none⟩ = some (.string j.us) ∧ W.cell? ⟨q5 + 1, 2, none⟩ = some (.int .i64 j.sp) ∧ W.cell? ⟨q5 + 1, 3, none⟩ = some (.string j.nm)) (by kernel_rfl) ?_ (fun hHeld0 => ?_)
  · exact hKK.out _ (Below.refl _ _)
  clear hHeld0
  have hAs : True := trivial
  generalize ((wt.alloc (.cells #[.slice At nt ct, .slice Bt mt dt] 24)).alloc (.cells #[.int .i64 (tkJ L M).st, .string (tkJ L M).us, .int .i64 (tkJ L M).sp, .string (tkJ L M).nm] 28)).drew = yd at *
  generalize wt.heap.size = q7 at *
  have hHeld0 := hKK.out yd (Below.refl _ _)
  refine wpAnyH_take (i := 0) (oi := { dst := some 24, op := Go.Op.load 24 (Go.Operand.tmp 5), type := 24, pos := "law.go:89", after := #[], guard := none }) (v := .agg #[.slice A n c, .slice B m d]) rfl (by kernel_rfl) (by kernel_rfl) (by kernel_rfl) (fun _ _ _ h => h) (Or.inl ⟨by rfl, ?_⟩) (by assumption) ?_
  · (intro W hSw; (try dsimp only at hSw); go_simp; try with_reducible rfl)
  try simp only [Act.put, List.setIfInBounds_toArray, List.set_cons_zero, List.set_cons_succ]
  refine wpAnyH_take (i := 1) (oi := { dst := some 25, op := Go.Op.load 28 (Go.Operand.tmp 6), type := 28, pos := "law.go:89", after := #[], guard := none }) (v := .agg #[.int .i64 j.st, .string j.us, .int .i64 j.sp, .string j.nm]) rfl (by kernel_rfl) (by kernel_rfl) (by kernel_rfl) (fun _ _ _ h => h) (Or.inl ⟨by rfl, ?_⟩) (by assumption) ?_
  · (intro W hSw; (try dsimp only at hSw); go_simp; try with_reducible rfl)
  try simp only [Act.put, List.setIfInBounds_toArray, List.set_cons_zero, List.set_cons_succ]
  refine wpAnyH_take (i := 3) (oi := { dst := some 27, op := Go.Op.load 24 (Go.Operand.tmp 5), type := 24, pos := "law.go:89", after := #[], guard := none }) (v := .agg #[.slice A n c, .slice B m d]) rfl (by kernel_rfl) (by kernel_rfl) (by kernel_rfl) (fun _ _ _ h => h) (Or.inl ⟨by rfl, ?_⟩) (by assumption) ?_
  · (intro W hSw; (try dsimp only at hSw); go_simp; try with_reducible rfl)
  try simp only [Act.put, List.setIfInBounds_toArray, List.set_cons_zero, List.set_cons_succ]
  refine wpAnyH_take (i := 4) (oi := { dst := some 28, op := Go.Op.load 28 (Go.Operand.tmp 6), type := 28, pos := "law.go:89", after := #[], guard := none }) (v := .agg #[.int .i64 j.st, .string j.us, .int .i64 j.sp, .string j.nm]) rfl (by kernel_rfl) (by kernel_rfl) (by kernel_rfl) (fun _ _ _ h => h) (Or.inl ⟨by rfl, ?_⟩) (by assumption) ?_
  · (intro W hSw; (try dsimp only at hSw); go_simp; try with_reducible rfl)
  try simp only [Act.put, List.setIfInBounds_toArray, List.set_cons_zero, List.set_cons_succ]
  refine wpAnyH_take (i := 6) (oi := { dst := some 30, op := Go.Op.load 24 (Go.Operand.tmp 5), type := 24, pos := "law.go:89", after := #[], guard := none }) (v := .agg #[.slice A n c, .slice B m d]) rfl (by kernel_rfl) (by kernel_rfl) (by kernel_rfl) (fun _ _ _ h => h) (Or.inl ⟨by rfl, ?_⟩) (by assumption) ?_
  · (intro W hSw; (try dsimp only at hSw); go_simp; try with_reducible rfl)
  try simp only [Act.put, List.setIfInBounds_toArray, List.set_cons_zero, List.set_cons_succ]
  refine wpAnyH_take (i := 7) (oi := { dst := some 31, op := Go.Op.load 28 (Go.Operand.tmp 6), type := 28, pos := "law.go:89", after := #[], guard := none }) (v := .agg #[.int .i64 j.st, .string j.us, .int .i64 j.sp, .string j.nm]) rfl (by kernel_rfl) (by kernel_rfl) (by kernel_rfl) (fun _ _ _ h => h) (Or.inl ⟨by rfl, ?_⟩) (by assumption) ?_
  · (intro W hSw; (try dsimp only at hSw); go_simp; try with_reducible rfl)
  try simp only [Act.put, List.setIfInBounds_toArray, List.set_cons_zero, List.set_cons_succ]
  refine wpAnyH_name fun a0 ha0 => ?_
  refine wpAnyH_grid0 (by kernel_rfl) (fun c b9 b10 b11 a W => ∃ v26 v29 v32 v10 v11 v12 : Value, a = ((((((a0.put (some 26) v26).put (some 29) v29).put (some 32) v32).put (some 10) v10).put (some 11) v11).put (some 12) v12) ∧ GF yd L M j c b9 b10 b11 v26 v29 v32 v10 v11 v12 W) (by kernel_rfl) (by kernel_rfl) ?_ ?_ ?_ ?_ ?_ ?_ ?_ ?_
  · rintro b9 b10 b11 a w5 ⟨v26, v29, v32, v10, v11, v12, rfl, hF⟩
    refine wpOp_shut (o := { dst := some 26, op := Go.Op.call { callee := Go.Callee.value (Go.Operand.func 19), args := #[Go.Operand.tmp 24, Go.Operand.tmp 25], argTypes := #[24, 28] }, type := 24, pos := "law.go:89", after := #[{ on := 0, ground := Go.Ground.data }, { on := 1, ground := Go.Ground.data }], guard := none }) rfl (fun K hK => ?_)
    subst ha0
    try simp only [Act.put, List.setIfInBounds_toArray, List.set_cons_zero, List.set_cons_succ]
    go_simp
    (go_at_call 19; refine (add_any A n c L B m d M j w5 (RdJ.below hLd hF.b) (RdJ.below hMd hF.b) (by omega) (by omega)).mono ?_; rintro e w6 ⟨A6, n6, c6, B6, m6, d6, rfl, hL6, hM6, hb6⟩)
    try go_wp2_with fail
    refine hK.out _ _ ⟨hKK.out _ (below_call hF.b hb6), _, v29, v32, v10, v11, v12, ?_, hF.c0 hb6 ⟨A6, n6, c6, B6, m6, d6, rfl, hL6, hM6⟩⟩
    try simp only [Act.put, List.setIfInBounds_toArray, List.set_cons_zero, List.set_cons_succ]
  · rintro b9 b10 b11 a w5 ⟨v26, v29, v32, v10, v11, v12, rfl, hF⟩
    refine wpOp_shut (o := { dst := some 29, op := Go.Op.call { callee := Go.Callee.value (Go.Operand.func 20), args := #[Go.Operand.tmp 27, Go.Operand.tmp 28], argTypes := #[24, 28] }, type := 24, pos := "law.go:89", after := #[{ on := 3, ground := Go.Ground.data }, { on := 4, ground := Go.Ground.data }, { on := 2, ground := Go.Ground.chain }], guard := none }) rfl (fun K hK => ?_)
    subst ha0
    try simp only [Act.put, List.setIfInBounds_toArray, List.set_cons_zero, List.set_cons_succ]
    go_simp
    (go_at_call 20; refine (done_any A n c L B m d M j w5 (RdJ.below hLd hF.b) (RdJ.below hMd hF.b) (by omega) (by omega)).mono ?_; rintro e w6 ⟨A6, n6, c6, B6, m6, d6, rfl, hL6, hM6, hb6⟩)
    try go_wp2_with fail
    refine hK.out _ _ ⟨hKK.out _ (below_call hF.b hb6), v26, _, v32, v10, v11, v12, ?_, hF.c1 hb6 ⟨A6, n6, c6, B6, m6, d6, rfl, hL6, hM6⟩⟩
    try simp only [Act.put, List.setIfInBounds_toArray, List.set_cons_zero, List.set_cons_succ]
  · rintro b9 b10 b11 a w5 ⟨v26, v29, v32, v10, v11, v12, rfl, hF⟩
    refine wpOp_shut (o := { dst := some 32, op := Go.Op.call { callee := Go.Callee.value (Go.Operand.func 21), args := #[Go.Operand.tmp 30, Go.Operand.tmp 31], argTypes := #[24, 28] }, type := 24, pos := "law.go:89", after := #[{ on := 6, ground := Go.Ground.data }, { on := 7, ground := Go.Ground.data }, { on := 5, ground := Go.Ground.chain }], guard := none }) rfl (fun K hK => ?_)
    subst ha0
    try simp only [Act.put, List.setIfInBounds_toArray, List.set_cons_zero, List.set_cons_succ]
    go_simp
    (go_at_call 21; refine (back_any A n c L B m d M j w5 (RdJ.below hLd hF.b) (RdJ.below hMd hF.b) (by omega) (by omega)).mono ?_; rintro e w6 ⟨A6, n6, c6, B6, m6, d6, rfl, hL6, hM6, hb6⟩)
    try go_wp2_with fail
    refine hK.out _ _ ⟨hKK.out _ (below_call hF.b hb6), v26, v29, _, v10, v11, v12, ?_, hF.c2 hb6 ⟨A6, n6, c6, B6, m6, d6, rfl, hL6, hM6⟩⟩
    try simp only [Act.put, List.setIfInBounds_toArray, List.set_cons_zero, List.set_cons_succ]
  · rintro c b10 b11 a w5 ⟨v26, v29, v32, v10, v11, v12, rfl, hF⟩
    refine wpOp_shut (o := { dst := some 10, op := Go.Op.alloc 24, type := 0, pos := "law.go:89", after := #[], guard := none }) rfl (fun K hK => ?_)
    subst ha0
    try simp only [Act.put, List.setIfInBounds_toArray, List.set_cons_zero, List.set_cons_succ]
    go_simp
    refine hK.out _ _ ⟨hKK.out _ (below_call hF.b (below_zq w5)), v26, v29, v32, _, v11, v12, ?_, hF.a9⟩
    try simp only [Act.put, List.setIfInBounds_toArray, List.set_cons_zero, List.set_cons_succ]
  · rintro c b9 b11 a w5 ⟨v26, v29, v32, v10, v11, v12, rfl, hF⟩
    refine wpOp_shut (o := { dst := some 11, op := Go.Op.alloc 24, type := 0, pos := "law.go:89", after := #[], guard := none }) rfl (fun K hK => ?_)
    subst ha0
    try simp only [Act.put, List.setIfInBounds_toArray, List.set_cons_zero, List.set_cons_succ]
    go_simp
    refine hK.out _ _ ⟨hKK.out _ (below_call hF.b (below_zq w5)), v26, v29, v32, v10, _, v12, ?_, hF.a10⟩
    try simp only [Act.put, List.setIfInBounds_toArray, List.set_cons_zero, List.set_cons_succ]
  · rintro c b9 b10 a w5 ⟨v26, v29, v32, v10, v11, v12, rfl, hF⟩
    refine wpOp_shut (o := { dst := some 12, op := Go.Op.alloc 24, type := 0, pos := "law.go:89", after := #[], guard := none }) rfl (fun K hK => ?_)
    subst ha0
    try simp only [Act.put, List.setIfInBounds_toArray, List.set_cons_zero, List.set_cons_succ]
    go_simp
    refine hK.out _ _ ⟨hKK.out _ (below_call hF.b (below_zq w5)), v26, v29, v32, v10, v11, _, ?_, hF.a11⟩
    try simp only [Act.put, List.setIfInBounds_toArray, List.set_cons_zero, List.set_cons_succ]
  · refine ⟨undef, undef, undef, undef, undef, undef, ?_, ⟨Below.refl _ _, fun h => absurd h (by omega), fun h => absurd h (by omega), fun h => absurd h (by omega), fun h => (by cases h), fun h => (by cases h), fun h => (by cases h), fun h => (by cases h), fun h => (by cases h), fun h => (by cases h)⟩⟩
    subst ha0
    try simp only [Act.put, List.setIfInBounds_toArray, List.set_cons_zero, List.set_cons_succ]
  · rintro a w5 ⟨v26, v29, v32, v10, v11, v12, rfl, hF⟩
    obtain ⟨A6, n6, c6, B6, m6, d6, rfl, hL6, hM6⟩ := hF.q0 (by omega)
    obtain ⟨A7, n7, c7, B7, m7, d7, rfl, hL7, hM7⟩ := hF.q1 (by omega)
    obtain ⟨A8, n8, c8, B8, m8, d8, rfl, hL8, hM8⟩ := hF.q2 (by omega)
    obtain ⟨g10, rfl, hs10, hk10⟩ := hF.p0 rfl
    obtain ⟨g11, rfl, hs11, hk11⟩ := hF.p1 rfl
    obtain ⟨g12, rfl, hs12, hk12⟩ := hF.p2 rfl
    have e01 : g10 ≠ g11 := fun e => hF.n01 rfl rfl (by rw [e])
    have e02 : g10 ≠ g12 := fun e => hF.n02 rfl rfl (by rw [e])
    have e12 : g11 ≠ g12 := fun e => hF.n12 rfl rfl (by rw [e])
    have hbF := hF.b
    clear hF
    subst ha0
    try simp only [Act.put, List.setIfInBounds_toArray, List.set_cons_zero, List.set_cons_succ]
    have kc10 := Blk.cell hk10
    have kf10 := Blk.frozen hk10
    refine wpAnyH_ready (rs := [12]) (by kernel_rfl) (by simp) ?_
    refine AllReadyH.cons (o := { dst := none, op := Go.Op.store 24 (Go.Operand.tmp 10) (Go.Operand.tmp 26), type := 0, pos := "law.go:89", after := #[{ on := 9, ground := Go.Ground.data }, { on := 2, ground := Go.Ground.data }, { on := 8, ground := Go.Ground.chain }, { on := 0, ground := Go.Ground.phase }, { on := 1, ground := Go.Ground.phase }, { on := 2, ground := Go.Ground.phase }, { on := 3, ground := Go.Ground.textOnly Go.Departure.lateStores }, { on := 4, ground := Go.Ground.textOnly Go.Departure.lateStores }, { on := 5, ground := Go.Ground.textOnly Go.Departure.lateStoresUnsure }, { on := 6, ground := Go.Ground.textOnly Go.Departure.lateStores }, { on := 7, ground := Go.Ground.textOnly Go.Departure.lateStores }, { on := 8, ground := Go.Ground.textOnly Go.Departure.lateStoresUnsure }, { on := 9, ground := Go.Ground.phase }, { on := 10, ground := Go.Ground.phase }, { on := 11, ground := Go.Ground.phase }], guard := none }) rfl (fun K hK => ?_) AllReadyH.nil
    go_simp
    refine hK.out _ _ ?_ (fun hHeldS12 => ?_)
    · exact hKK.out _ ((hbF.setCell hs10 _).setCell hs10 _)
    clear hK K hHeldS12
    try simp only [Act.put, List.setIfInBounds_toArray, List.set_cons_zero, List.set_cons_succ]
    have hb1 : Below yd.heap.size yd ((w5.setCell ⟨g10, 0, none⟩ (.slice A6 n6 c6)).setCell ⟨g10, 1, none⟩ (.slice B6 m6 d6)) := (hbF.setCell hs10 _).setCell hs10 _
    have h10a : ((w5.setCell ⟨g10, 0, none⟩ (.slice A6 n6 c6)).setCell ⟨g10, 1, none⟩ (.slice B6 m6 d6)).heap[g10]? = some (.cells #[.slice A6 n6 c6, .slice B6 m6 d6] 24 (0, 0)) := (heap_set_near _ _ _ _ _ _ (heap_set_near _ _ _ _ _ _ hk10))
    have h11a : ((w5.setCell ⟨g10, 0, none⟩ (.slice A6 n6 c6)).setCell ⟨g10, 1, none⟩ (.slice B6 m6 d6)).heap[g11]? = _ := ((heap_set_far _ _ _ _ _ e01.symm).trans ((heap_set_far _ _ _ _ _ e01.symm).trans hk11))
    have h12a : ((w5.setCell ⟨g10, 0, none⟩ (.slice A6 n6 c6)).setCell ⟨g10, 1, none⟩ (.slice B6 m6 d6)).heap[g12]? = _ := ((heap_set_far _ _ _ _ _ e02.symm).trans ((heap_set_far _ _ _ _ _ e02.symm).trans hk12))
    have hX1 := Lib.hid (fun (A : Option Addr) (n c : Nat) (X : List Jb) (h : RdR RJ 4 w5 A n c X) => RdJ.setQ (RdJ.setQ h hk10 0 (.slice A6 n6 c6)) (heap_set_near _ _ _ _ _ _ hk10) 1 (.slice B6 m6 d6))
    clear kc10 kf10 hbF
    generalize ((w5.setCell ⟨g10, 0, none⟩ (.slice A6 n6 c6)).setCell ⟨g10, 1, none⟩ (.slice B6 m6 d6)) = w6 at *
    have kc11 := Blk.cell h11a
    have kf11 := Blk.frozen h11a
    refine wpAnyH_ready (rs := [13]) (by kernel_rfl) (by simp) ?_
    refine AllReadyH.cons (o := { dst := none, op := Go.Op.store 24 (Go.Operand.tmp 11) (Go.Operand.tmp 29), type := 0, pos := "law.go:89", after := #[{ on := 10, ground := Go.Ground.data }, { on := 5, ground := Go.Ground.data }, { on := 12, ground := Go.Ground.chain }, { on := 0, ground := Go.Ground.phase }, { on := 1, ground := Go.Ground.phase }, { on := 2, ground := Go.Ground.phase }, { on := 3, ground := Go.Ground.phase }, { on := 4, ground := Go.Ground.phase }, { on := 5, ground := Go.Ground.phase }, { on := 6, ground := Go.Ground.textOnly Go.Departure.lateStores }, { on := 7, ground := Go.Ground.textOnly Go.Departure.lateStores }, { on := 8, ground := Go.Ground.textOnly Go.Departure.lateStoresUnsure }, { on := 9, ground := Go.Ground.phase }, { on := 10, ground := Go.Ground.phase }, { on := 11, ground := Go.Ground.phase }, { on := 12, ground := Go.Ground.phase }], guard := none }) rfl (fun K hK => ?_) AllReadyH.nil
    go_simp
    refine hK.out _ _ ?_ (fun hHeldS13 => ?_)
    · exact hKK.out _ ((hb1.setCell hs11 _).setCell hs11 _)
    clear hK K hHeldS13
    try simp only [Act.put, List.setIfInBounds_toArray, List.set_cons_zero, List.set_cons_succ]
    have hb2 : Below yd.heap.size yd ((w6.setCell ⟨g11, 0, none⟩ (.slice A7 n7 c7)).setCell ⟨g11, 1, none⟩ (.slice B7 m7 d7)) := (hb1.setCell hs11 _).setCell hs11 _
    have h11b : ((w6.setCell ⟨g11, 0, none⟩ (.slice A7 n7 c7)).setCell ⟨g11, 1, none⟩ (.slice B7 m7 d7)).heap[g11]? = some (.cells #[.slice A7 n7 c7, .slice B7 m7 d7] 24 (0, 0)) := (heap_set_near _ _ _ _ _ _ (heap_set_near _ _ _ _ _ _ h11a))
    have h10b : ((w6.setCell ⟨g11, 0, none⟩ (.slice A7 n7 c7)).setCell ⟨g11, 1, none⟩ (.slice B7 m7 d7)).heap[g10]? = _ := ((heap_set_far _ _ _ _ _ e01).trans ((heap_set_far _ _ _ _ _ e01).trans h10a))
    have h12b : ((w6.setCell ⟨g11, 0, none⟩ (.slice A7 n7 c7)).setCell ⟨g11, 1, none⟩ (.slice B7 m7 d7)).heap[g12]? = _ := ((heap_set_far _ _ _ _ _ e12.symm).trans ((heap_set_far _ _ _ _ _ e12.symm).trans h12a))
    have hX2 := Lib.hid (fun (A : Option Addr) (n c : Nat) (X : List Jb) (h : RdR RJ 4 w6 A n c X) => RdJ.setQ (RdJ.setQ h h11a 0 (.slice A7 n7 c7)) (heap_set_near _ _ _ _ _ _ h11a) 1 (.slice B7 m7 d7))
    clear kc11 kf11 hb1
    generalize ((w6.setCell ⟨g11, 0, none⟩ (.slice A7 n7 c7)).setCell ⟨g11, 1, none⟩ (.slice B7 m7 d7)) = w7 at *
    have kc12 := Blk.cell h12b
    have kf12 := Blk.frozen h12b
    refine wpAnyH_ready (rs := [14]) (by kernel_rfl) (by simp) ?_
    refine AllReadyH.cons (o := { dst := none, op := Go.Op.store 24 (Go.Operand.tmp 12) (Go.Operand.tmp 32), type := 0, pos := "law.go:89", after := #[{ on := 11, ground := Go.Ground.data }, { on := 8, ground := Go.Ground.data }, { on := 13, ground := Go.Ground.chain }, { on := 0, ground := Go.Ground.phase }, { on := 1, ground := Go.Ground.phase }, { on := 2, ground := Go.Ground.phase }, { on := 3, ground := Go.Ground.phase }, { on := 4, ground := Go.Ground.phase }, { on := 5, ground := Go.Ground.phase }, { on := 6, ground := Go.Ground.phase }, { on := 7, ground := Go.Ground.phase }, { on := 8, ground := Go.Ground.phase }, { on := 9, ground := Go.Ground.phase }, { on := 10, ground := Go.Ground.phase }, { on := 11, ground := Go.Ground.phase }, { on := 12, ground := Go.Ground.phase }, { on := 13, ground := Go.Ground.phase }], guard := none }) rfl (fun K hK => ?_) AllReadyH.nil
    go_simp
    refine hK.out _ _ ?_ (fun hHeldS14 => ?_)
    · exact hKK.out _ ((hb2.setCell hs12 _).setCell hs12 _)
    clear hK K hHeldS14
    try simp only [Act.put, List.setIfInBounds_toArray, List.set_cons_zero, List.set_cons_succ]
    have hb3 : Below yd.heap.size yd ((w7.setCell ⟨g12, 0, none⟩ (.slice A8 n8 c8)).setCell ⟨g12, 1, none⟩ (.slice B8 m8 d8)) := (hb2.setCell hs12 _).setCell hs12 _
    have h12c : ((w7.setCell ⟨g12, 0, none⟩ (.slice A8 n8 c8)).setCell ⟨g12, 1, none⟩ (.slice B8 m8 d8)).heap[g12]? = some (.cells #[.slice A8 n8 c8, .slice B8 m8 d8] 24 (0, 0)) := (heap_set_near _ _ _ _ _ _ (heap_set_near _ _ _ _ _ _ h12b))
    have h10c : ((w7.setCell ⟨g12, 0, none⟩ (.slice A8 n8 c8)).setCell ⟨g12, 1, none⟩ (.slice B8 m8 d8)).heap[g10]? = _ := ((heap_set_far _ _ _ _ _ e02).trans ((heap_set_far _ _ _ _ _ e02).trans h10b))
    have h11c : ((w7.setCell ⟨g12, 0, none⟩ (.slice A8 n8 c8)).setCell ⟨g12, 1, none⟩ (.slice B8 m8 d8)).heap[g11]? = _ := ((heap_set_far _ _ _ _ _ e12).trans ((heap_set_far _ _ _ _ _ e12).trans h11b))
    have hX3 := Lib.hid (fun (A : Option Addr) (n c : Nat) (X : List Jb) (h : RdR RJ 4 w7 A n c X) => RdJ.setQ (RdJ.setQ h h12b 0 (.slice A8 n8 c8)) (heap_set_near _ _ _ _ _ _ h12b) 1 (.slice B8 m8 d8))
    clear kc12 kf12 hb2
    generalize ((w7.setCell ⟨g12, 0, none⟩ (.slice A8 n8 c8)).setCell ⟨g12, 1, none⟩ (.slice B8 m8 d8)) = w8 at *
    have HL6 := hX3.out _ _ _ _ (hX2.out _ _ _ _ (hX1.out _ _ _ _ hL6))
    have HM6 := hX3.out _ _ _ _ (hX2.out _ _ _ _ (hX1.out _ _ _ _ hM6))
    have HL7 := hX3.out _ _ _ _ (hX2.out _ _ _ _ (hX1.out _ _ _ _ hL7))
    have HM7 := hX3.out _ _ _ _ (hX2.out _ _ _ _ (hX1.out _ _ _ _ hM7))
    have HL8 := hX3.out _ _ _ _ (hX2.out _ _ _ _ (hX1.out _ _ _ _ hL8))
    have HM8 := hX3.out _ _ _ _ (hX2.out _ _ _ _ (hX1.out _ _ _ _ hM8))
    clear hX1 hX2 hX3 hL6 hM6 hL7 hM7 hL8 hM8 hk10 hk11 hk12 h10a h11a h12a h10b h11b h12b hs10 hs11 hs12 e01 e02 e12
    refine wpAnyH_done (by kernel_rfl) ?_ _
    have k5 := heap_call hb3 k5
    have k6 := heap_call hb3 k6
    have k7 := heap_call hb3 k7
    have k8 := heap_call hb3 k8
    have hb08 := below_call hb0y hb3
    have hL9 := RdJ.below hLd hb3
    have hM9 := RdJ.below hMd hb3
    have hLt9 := RdJ.below hLtd hb3
    have hMt9 := RdJ.below hMtd hb3
    have HC : Hid (∀ W, Below w8.heap.size w8 W → W.cell? ⟨q5, 0, none⟩ = some (.slice A n c) ∧ W.cell? ⟨q5, 1, none⟩ = some (.slice B m d) ∧ W.cell? ⟨q5 + 1, 0, none⟩ = some (.int .i64 j.st) ∧ W.cell? ⟨q5 + 1, 1, none⟩ = some (.string j.us) ∧ W.cell? ⟨q5 + 1, 2, none⟩ = some (.int .i64 j.sp) ∧ W.cell? ⟨q5 + 1, 3, none⟩ = some (.string j.nm) ∧ W.cell? ⟨q7, 0, none⟩ = some (.slice At nt ct) ∧ W.cell? ⟨q7, 1, none⟩ = some (.slice Bt mt dt) ∧ W.cell? ⟨q7 + 1, 0, none⟩ = some (.int .i64 (tkJ L M).st) ∧ W.cell? ⟨q7 + 1, 1, none⟩ = some (.string (tkJ L M).us) ∧ W.cell? ⟨q7 + 1, 2, none⟩ = some (.int .i64 (tkJ L M).sp) ∧ W.cell? ⟨q7 + 1, 3, none⟩ = some (.string (tkJ L M).nm) ∧ W.cell? ⟨g10, 0, none⟩ = some (.slice A6 n6 c6) ∧ W.cell? ⟨g10, 1, none⟩ = some (.slice B6 m6 d6) ∧ W.cell? ⟨g11, 0, none⟩ = some (.slice A7 n7 c7) ∧ W.cell? ⟨g11, 1, none⟩ = some (.slice B7 m7 d7) ∧ W.cell? ⟨g12, 0, none⟩ = some (.slice A8 n8 c8) ∧ W.cell? ⟨g12, 1, none⟩ = some (.slice B8 m8 d8)) := Lib.hid fun W hW => ⟨Blk.cell (heap_call hW k5) 0, Blk.cell (heap_call hW k5) 1, Blk.cell (heap_call hW k6) 0, Blk.cell (heap_call hW k6) 1, Blk.cell (heap_call hW k6) 2, Blk.cell (heap_call hW k6) 3, Blk.cell (heap_call hW k7) 0, Blk.cell (heap_call hW k7) 1, Blk.cell (heap_call hW k8) 0, Blk.cell (heap_call hW k8) 1, Blk.cell (heap_call hW k8) 2, Blk.cell (heap_call hW k8) 3, Blk.cell (heap_call hW h10c) 0, Blk.cell (heap_call hW h10c) 1, Blk.cell (heap_call hW h11c) 0, Blk.cell (heap_call hW h11c) 1, Blk.cell (heap_call hW h12c) 0, Blk.cell (heap_call hW h12c) 1⟩
    have hxw := Lib.hid fun (W : World) (hW : Below w8.heap.size w8 W) => HX.out W (below_call hb08 hW)
    have HAK := Lib.hid fun (W : World) (hW : Below w8.heap.size w8 W) => HAW.out W (below_call hb08 hW)
    have htk := tk_keeps MJ hLj hMj
    have HJA := add_keeps MJ hLj hj
    have HJD := done_keeps (j := j) MJ hMj
    have HV1 : Hid (∀ W, Below w8.heap.size w8 W → Calls Tryd.prog 17 #[.agg #[.slice At nt ct, .slice Bt mt dt]] W fun e w' => e = .returned (.bool true) ∧ Below W.heap.size W w') := Lib.hid fun W hW => by
      have := valid_any _ _ _ (tkW L M) _ _ _ (tkT L M) x W (RdJ.below hLt9 hW) (RdJ.below hMt9 hW) (hxw.out W hW) (fun a ha => (htk.1 a ha).wf)
      rw [qv_trueK htk.1 htk.2 (tk_nodup hnd)] at this
      exact this
    have HV2 : Hid (∀ W, Below w8.heap.size w8 W → Calls Tryd.prog 17 #[.agg #[.slice A6 n6 c6, .slice B6 m6 d6]] W fun e w' => e = .returned (.bool true) ∧ Below W.heap.size W w') := Lib.hid fun W hW => by
      have := valid_any _ _ _ (addL L j) _ _ _ (M) x W (RdJ.below HL6 hW) (RdJ.below HM6 hW) (hxw.out W hW) (fun a ha => (HJA a ha).wf)
      rw [qv_trueK HJA hMj (add_nodup hnd)] at this
      exact this
    have HV3 : Hid (∀ W, Below w8.heap.size w8 W → Calls Tryd.prog 17 #[.agg #[.slice A7 n7 c7, .slice B7 m7 d7]] W fun e w' => e = .returned (.bool true) ∧ Below W.heap.size W w') := Lib.hid fun W hW => by
      have := valid_any _ _ _ (L) _ _ _ (doneL M j) x W (RdJ.below HL7 hW) (RdJ.below HM7 hW) (hxw.out W hW) (fun a ha => (hLj a ha).wf)
      rw [qv_trueK hLj HJD hnd] at this
      exact this
    have HV4 : Hid (∀ W, Below w8.heap.size w8 W → Calls Tryd.prog 17 #[.agg #[.slice A8 n8 c8, .slice B8 m8 d8]] W fun e w' => e = .returned (.bool true) ∧ Below W.heap.size W w') := Lib.hid fun W hW => by
      have := valid_any _ _ _ (addL L j) _ _ _ (doneL M j) x W (RdJ.below HL8 hW) (RdJ.below HM8 hW) (hxw.out W hW) (fun a ha => (HJA a ha).wf)
      rw [qv_trueK HJA HJD (add_nodup hnd)] at this
      exact this
    have HS1 : Hid (∀ W, Below w8.heap.size w8 W → Calls Tryd.prog 22 #[.slice A6 n6 c6, .agg #[.int .i64 j.st, .string j.us, .int .i64 j.sp, .string j.nm]] W fun e w' => e = .returned (.bool true) ∧ Below W.heap.size W w') := Lib.hid fun W hW => by
      have := has_job _ _ _ (addL L j) j W (RdJ.below HL6 hW)
      rw [decide_eq_true (mem_addL L j)] at this
      exact this
    have HS2 : Hid (∀ W, Below w8.heap.size w8 W → Calls Tryd.prog 22 #[.slice A8 n8 c8, .agg #[.int .i64 j.st, .string j.us, .int .i64 j.sp, .string j.nm]] W fun e w' => e = .returned (.bool true) ∧ Below W.heap.size W w') := Lib.hid fun W hW => by
      have := has_job _ _ _ (addL L j) j W (RdJ.below HL8 hW)
      rw [decide_eq_true (mem_addL L j)] at this
      exact this
    have HS3 : Hid (tkOk L M = true → ∀ W, Below w8.heap.size w8 W → Calls Tryd.prog 22 #[.slice A n c, .agg #[.int .i64 (tkJ L M).st, .string (tkJ L M).us, .int .i64 (tkJ L M).sp, .string (tkJ L M).nm]] W fun e w' => e = .returned (.bool true) ∧ Below W.heap.size W w') := Lib.hid fun hok W hW => by
      have := has_job _ _ _ (L) (tkJ L M) W (RdJ.below hL9 hW)
      rw [decide_eq_true (tk_law hnd hok).1] at this
      exact this
    have HS4 : Hid (tkOk L M = true → ∀ W, Below w8.heap.size w8 W → Calls Tryd.prog 22 #[.slice Bt mt dt, .agg #[.int .i64 (tkJ L M).st, .string (tkJ L M).us, .int .i64 (tkJ L M).sp, .string (tkJ L M).nm]] W fun e w' => e = .returned (.bool true) ∧ Below W.heap.size W w') := Lib.hid fun hok W hW => by
      have := has_job _ _ _ (tkT L M) (tkJ L M) W (RdJ.below hMt9 hW)
      rw [decide_eq_true (tk_law hnd hok).2.1] at this
      exact this
    have HS5 : Hid (tkOk L M = true → ∀ W, Below w8.heap.size w8 W → Calls Tryd.prog 22 #[.slice At nt ct, .agg #[.int .i64 (tkJ L M).st, .string (tkJ L M).us, .int .i64 (tkJ L M).sp, .string (tkJ L M).nm]] W fun e w' => e = .returned (.bool false) ∧ Below W.heap.size W w') := Lib.hid fun hok W hW => by
      have := has_job _ _ _ (tkW L M) (tkJ L M) W (RdJ.below hLt9 hW)
      rw [decide_eq_false (tk_law hnd hok).2.2.1] at this
      exact this
    have HQ : Hid (tkOk L M = false → ∀ W, Below w8.heap.size w8 W → Calls Tryd.prog 23 #[.agg #[.slice At nt ct, .slice Bt mt dt], .agg #[.slice A n c, .slice B m d]] W fun e w' => e = .returned (.bool true) ∧ Below W.heap.size W w') := Lib.hid fun hok W hW => by
      have := sameq_any _ _ _ (tkW L M) _ _ _ (tkT L M) _ _ _ L _ _ _ M W (RdJ.below hLt9 hW) (RdJ.below hMt9 hW) (RdJ.below hL9 hW) (RdJ.below hM9 hW)
      rw [(tk_law0 hok).1, (tk_law0 hok).2, decide_eq_true rfl, decide_eq_true rfl] at this
      exact this
    have HSM : Hid (∀ W, Below w8.heap.size w8 W → Calls Tryd.prog 24 #[.slice A7 n7 c7, .slice A n c] W fun e w' => e = .returned (.bool true) ∧ Below W.heap.size W w') := Lib.hid fun W hW => by
      have := same_job _ _ _ L _ _ _ L W (RdJ.below HL7 hW) (RdJ.below hL9 hW)
      rw [decide_eq_true rfl] at this
      exact this
    have hn6 : n6 ≤ n + 1 := by have h1 := HL6.len; have h2 := hL9.len; have := addL_length L j; omega
    have hm7 : m ≤ m7 + 1 ∧ m7 ≤ 11 := by have h1 := HM7.len; have h2 := hM9.len; have h3 := doneL_length' M j; have := doneL_length M j; omega
    have HLN : Hid (tkOk L M = true → nt + 1 = n ∧ mt = m + 1) := Lib.hid fun hok => by have h1 := hLt9.len; have h2 := hL9.len; have h3 := hMt9.len; have h4 := hM9.len; have := tk_law hnd hok; omega
    have hnt : nt ≤ 12 := by have h1 := hLt9.len; have := tkW_length L M; omega
    clear htk HJA HJD hLj hMj hnd hj k5 k6 k7 k8 h10c h11c h12c hb3 hb0y hLd hMd hLtd hMtd hL9 hM9 hLt9 hMt9 HL6 HM6 HL7 HM7 HL8 HM8 hKK hHeld0 hAs hl1 hl2 HAW HX
    have z0 : IntKind.i64.wrap ((n : Int) + 1) = (n : Int) + 1 := by rw [IntKind.wrap_i64]; omega
    have z1 : (n6 : Int) ≤ (n : Int) + 1 := by omega
    have z2 : IntKind.i64.wrap ((m7 : Int) + 1) = (m7 : Int) + 1 := by rw [IntKind.wrap_i64]; omega
    have z3 : (m : Int) ≤ (m7 : Int) + 1 := by omega
    have hub : ∀ b : Bool, (some undef = some (Value.bool b)) = False := fun b => by simp [undef]
    have hub2 : ∀ b : Bool, (undef = Value.bool b) = False := fun b => by simp [undef]
    have hB0 : Below w8.heap.size w8 w8 := Below.refl _ _
    obtain ⟨y0, y1, y2, y3, y4, y5, y6, y7, y8, y9, y10, y11, y12, y13, y14, y15, y16, y17⟩ := HC.out _ hB0
    go_wp2_with fail
    go_at_call 17
    refine (HV1.out _ hB0).mono ?_
    rintro e u1 ⟨rfl, hu1⟩
    have hB1 := below_call hB0 hu1
    clear y0 y1 y2 y3 y4 y5 y6 y7 y8 y9 y10 y11 y12 y13 y14 y15 y16 y17 hu1 hB0
    obtain ⟨y0, y1, y2, y3, y4, y5, y6, y7, y8, y9, y10, y11, y12, y13, y14, y15, y16, y17⟩ := HC.out _ hB1
    go_wp2_with fail
    go_at_call 17
    refine (HV2.out _ hB1).mono ?_
    rintro e u2 ⟨rfl, hu2⟩
    have hB2 := below_call hB1 hu2
    clear y0 y1 y2 y3 y4 y5 y6 y7 y8 y9 y10 y11 y12 y13 y14 y15 y16 y17 hu2 hB1
    obtain ⟨y0, y1, y2, y3, y4, y5, y6, y7, y8, y9, y10, y11, y12, y13, y14, y15, y16, y17⟩ := HC.out _ hB2
    go_wp2_with fail
    go_at_call 17
    refine (HV3.out _ hB2).mono ?_
    rintro e u3 ⟨rfl, hu3⟩
    have hB3 := below_call hB2 hu3
    clear y0 y1 y2 y3 y4 y5 y6 y7 y8 y9 y10 y11 y12 y13 y14 y15 y16 y17 hu3 hB2
    obtain ⟨y0, y1, y2, y3, y4, y5, y6, y7, y8, y9, y10, y11, y12, y13, y14, y15, y16, y17⟩ := HC.out _ hB3
    go_wp2_with fail
    go_at_call 17
    refine (HV4.out _ hB3).mono ?_
    rintro e u4 ⟨rfl, hu4⟩
    have hB4 := below_call hB3 hu4
    clear y0 y1 y2 y3 y4 y5 y6 y7 y8 y9 y10 y11 y12 y13 y14 y15 y16 y17 hu4 hB3
    obtain ⟨y0, y1, y2, y3, y4, y5, y6, y7, y8, y9, y10, y11, y12, y13, y14, y15, y16, y17⟩ := HC.out _ hB4
    go_wp2_with fail
    go_at_call 22
    refine (HS1.out _ hB4).mono ?_
    rintro e u5 ⟨rfl, hu5⟩
    have hB5 := below_call hB4 hu5
    clear y0 y1 y2 y3 y4 y5 y6 y7 y8 y9 y10 y11 y12 y13 y14 y15 y16 y17 hu5 hB4
    obtain ⟨y0, y1, y2, y3, y4, y5, y6, y7, y8, y9, y10, y11, y12, y13, y14, y15, y16, y17⟩ := HC.out _ hB5
    go_wp2_with fail
    go_at_call 22
    refine (HS2.out _ hB5).mono ?_
    rintro e u6 ⟨rfl, hu6⟩
    have hB6 := below_call hB5 hu6
    clear y0 y1 y2 y3 y4 y5 y6 y7 y8 y9 y10 y11 y12 y13 y14 y15 y16 y17 hu6 hB5
    obtain ⟨y0, y1, y2, y3, y4, y5, y6, y7, y8, y9, y10, y11, y12, y13, y14, y15, y16, y17⟩ := HC.out _ hB6
    clear HV1 HV2 HV3 HV4 HS1 HS2
    cases hok : tkOk L M with
    | false =>
      have HQ2 := Lib.hid (HQ.out hok)
      clear HQ HS3 HS4 HS5 HLN hok
      go_wp2_with fail
      go_at_call 11
      refine (HAK.out _ hB6).mono ?_
      rintro e u7 ⟨rfl, hu7⟩
      have hB7 := below_call hB6 hu7
      clear y0 y1 y2 y3 y4 y5 y6 y7 y8 y9 y10 y11 y12 y13 y14 y15 y16 y17 hu7 hB6
      obtain ⟨y0, y1, y2, y3, y4, y5, y6, y7, y8, y9, y10, y11, y12, y13, y14, y15, y16, y17⟩ := HC.out _ hB7
      go_wp2_with fail
      go_at_call 23
      refine (HQ2.out _ hB7).mono ?_
      rintro e u8 ⟨rfl, hu8⟩
      have hB8 := below_call hB7 hu8
      clear y0 y1 y2 y3 y4 y5 y6 y7 y8 y9 y10 y11 y12 y13 y14 y15 y16 y17 hu8 hB7
      obtain ⟨y0, y1, y2, y3, y4, y5, y6, y7, y8, y9, y10, y11, y12, y13, y14, y15, y16, y17⟩ := HC.out _ hB8
      go_wp2_with fail
      go_at_call 24
      refine (HSM.out _ hB8).mono ?_
      rintro e u9 ⟨rfl, hu9⟩
      have hB9 := below_call hB8 hu9
      clear y0 y1 y2 y3 y4 y5 y6 y7 y8 y9 y10 y11 y12 y13 y14 y15 y16 y17 hu9 hB8
      go_wp2_with fail
      go_ret
      exact ⟨rfl, below_call hb08 hB9⟩
    | true =>
      have HT3 := Lib.hid (HS3.out hok)
      have HT4 := Lib.hid (HS4.out hok)
      have HT5 := Lib.hid (HS5.out hok)
      have hln := HLN.out hok
      have z4 : IntKind.i64.wrap ((nt : Int) + 1) = (n : Int) := by rw [IntKind.wrap_i64]; omega
      have z5 : IntKind.i64.wrap ((m : Int) + 1) = (mt : Int) := by rw [IntKind.wrap_i64]; omega
      clear HQ HS3 HS4 HS5 HLN hok hln
      go_wp2_with fail
      go_at_call 22
      refine (HT3.out _ hB6).mono ?_
      rintro e u7 ⟨rfl, hu7⟩
      have hB7 := below_call hB6 hu7
      clear y0 y1 y2 y3 y4 y5 y6 y7 y8 y9 y10 y11 y12 y13 y14 y15 y16 y17 hu7 hB6
      obtain ⟨y0, y1, y2, y3, y4, y5, y6, y7, y8, y9, y10, y11, y12, y13, y14, y15, y16, y17⟩ := HC.out _ hB7
      go_wp2_with fail
      go_at_call 22
      refine (HT4.out _ hB7).mono ?_
      rintro e u8 ⟨rfl, hu8⟩
      have hB8 := below_call hB7 hu8
      clear y0 y1 y2 y3 y4 y5 y6 y7 y8 y9 y10 y11 y12 y13 y14 y15 y16 y17 hu8 hB7
      obtain ⟨y0, y1, y2, y3, y4, y5, y6, y7, y8, y9, y10, y11, y12, y13, y14, y15, y16, y17⟩ := HC.out _ hB8
      go_wp2_with fail
      go_at_call 22
      refine (HT5.out _ hB8).mono ?_
      rintro e u9 ⟨rfl, hu9⟩
      have hB9 := below_call hB8 hu9
      clear y0 y1 y2 y3 y4 y5 y6 y7 y8 y9 y10 y11 y12 y13 y14 y15 y16 y17 hu9 hB8
      obtain ⟨y0, y1, y2, y3, y4, y5, y6, y7, y8, y9, y10, y11, y12, y13, y14, y15, y16, y17⟩ := HC.out _ hB9
      go_wp2_with fail
      go_at_call 11
      refine (HAK.out _ hB9).mono ?_
      rintro e u10 ⟨rfl, hu10⟩
      have hB10 := below_call hB9 hu10
      clear y0 y1 y2 y3 y4 y5 y6 y7 y8 y9 y10 y11 y12 y13 y14 y15 y16 y17 hu10 hB9
      obtain ⟨y0, y1, y2, y3, y4, y5, y6, y7, y8, y9, y10, y11, y12, y13, y14, y15, y16, y17⟩ := HC.out _ hB10
      go_wp2_with fail
      go_at_call 24
      refine (HSM.out _ hB10).mono ?_
      rintro e u11 ⟨rfl, hu11⟩
      have hB11 := below_call hB10 hu11
      clear y0 y1 y2 y3 y4 y5 y6 y7 y8 y9 y10 y11 y12 y13 y14 y15 y16 y17 hu11 hB10
      go_wp2_with fail
      go_ret
      exact ⟨rfl, below_call hb08 hB11⟩
end Go.Proofs.YtobgnncdldfkkaaDoor
