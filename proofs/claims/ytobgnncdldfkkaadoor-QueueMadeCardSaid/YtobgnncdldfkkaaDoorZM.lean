/- The walk of QueueMade. Printed by gen_zm.py -/
import Derived.Test.YtobgnncdldfkkaaDoorQX
import Derived.Test.YtobgnncdldfkkaaDoorQW
import Derived.Test.YtobgnncdldfkkaaDoorQY
import Derived.Test.YtobgnncdldfkkaaDoorQU
import Derived.Deep.CutBlock
namespace Go.Proofs.YtobgnncdldfkkaaDoor
open Go.RowKit
set_option linter.unusedSimpArgs false
set_option linter.unusedVariables false

theorem qv_trueM {L M : List Jb} (hL : ∀ j ∈ L, MJ j) (hM : ∀ j ∈ M, MJ j) (hn : L.Nodup) : qv L M = true := by
  unfold qv
  rw [List.all_eq_true.2 (fun j hj => (hL j hj).good), List.all_eq_true.2 (fun j hj => (hM j hj).good), decide_eq_true hn]
  rfl
theorem jset0 (v : Int) : ∀ (i : Nat) (L : List Jb), i < L.length → (jcells L).set (i * 4) (.int .i64 v) = jcells (L.set i ⟨v, (L.getD i jb0).us, (L.getD i jb0).sp, (L.getD i jb0).nm⟩)
  | _, [], h => by simp at h
  | 0, a :: t, _ => by simp [jcells, Jb.cells]
  | i + 1, a :: t, h => by
    have ih := jset0 v i t (by simpa using h)
    have e : jcells (a :: t) = a.cells ++ jcells t := by simp [jcells]
    have e3 : a.cells.length = 4 := rfl
    rw [e, List.set_append_right _ _ (by rw [e3]; omega), e3, show (i + 1) * 4 - 4 = i * 4 by omega, ih]
    simp [jcells]
theorem jset1 (s : ByteArray) : ∀ (i : Nat) (L : List Jb), i < L.length → (jcells L).set (i * 4 + 1) (.string s) = jcells (L.set i ⟨(L.getD i jb0).st, s, (L.getD i jb0).sp, (L.getD i jb0).nm⟩)
  | _, [], h => by simp at h
  | 0, a :: t, _ => by simp [jcells, Jb.cells]
  | i + 1, a :: t, h => by
    have ih := jset1 s i t (by simpa using h)
    have e : jcells (a :: t) = a.cells ++ jcells t := by simp [jcells]
    have e3 : a.cells.length = 4 := rfl
    rw [e, List.set_append_right _ _ (by rw [e3]; omega), e3, show (i + 1) * 4 + 1 - 4 = i * 4 + 1 by omega, ih]
    simp [jcells]
theorem OwJ.put0 {w : World} {base e n c g i : Nat} {L : List Jb} (h : OwR RJ 4 w base e (some ⟨g, 0, none⟩) n c L) (hi : i < L.length) (v : Int) : OwR RJ 4 (w.setCell ⟨g, i * 4, none⟩ (.int .i64 v)) base e (some ⟨g, 0, none⟩) n c (L.set i ⟨v, (L.getD i jb0).us, (L.getD i jb0).sp, (L.getD i jb0).nm⟩) := by
  have h1 := (World.ownsRow.stored (OwJ.vals h) (i * 4) (.int .i64 v)).1
  rw [jset0 v i L hi] at h1
  exact ⟨by rw [List.length_set]; exact h.len, h.cap, h.max, _, h1, fits_jcells _ _⟩
theorem OwJ.put1 {w : World} {base e n c g i : Nat} {L : List Jb} (h : OwR RJ 4 w base e (some ⟨g, 0, none⟩) n c L) (hi : i < L.length) (s : ByteArray) : OwR RJ 4 (w.setCell ⟨g, i * 4 + 1, none⟩ (.string s)) base e (some ⟨g, 0, none⟩) n c (L.set i ⟨(L.getD i jb0).st, s, (L.getD i jb0).sp, (L.getD i jb0).nm⟩) := by
  have h1 := (World.ownsRow.stored (OwJ.vals h) (i * 4 + 1) (.string s)).1
  rw [jset1 s i L hi] at h1
  exact ⟨by rw [List.length_set]; exact h.len, h.cap, h.max, _, h1, fits_jcells _ _⟩
/-- the copy's box and its rows, of the call's own -/
def KS (yd : World) (L M : List Jb) (n m gb : Nat) (W : World) : Prop := ∃ (A5 : Option Addr) (c5 : Nat) (B5 : Option Addr) (d5 : Nat), Below yd.heap.size yd W ∧ yd.heap.size ≤ gb ∧ W.heap[gb]? = some (.cells #[.slice A5 n c5, .slice B5 m d5] 24 (0, 0)) ∧ OwR RJ 4 W yd.heap.size 28 A5 n c5 L ∧ OwR RJ 4 W yd.heap.size 28 B5 m d5 M ∧ Ne2 A5 B5 ∧ A5.map (·.block) ≠ some gb ∧ B5.map (·.block) ≠ some gb
/-- the copy's box, and what its rows read -/
def KF (yd : World) (gb : Nat) (W : World) : Prop := ∃ (LK MK : List Jb) (A5 : Option Addr) (n5 c5 : Nat) (B5 : Option Addr) (m5 d5 : Nat), Below yd.heap.size yd W ∧ W.heap[gb]? = some (.cells #[.slice A5 n5 c5, .slice B5 m5 d5] 24 (0, 0)) ∧ RdR RJ 4 W A5 n5 c5 LK ∧ RdR RJ 4 W B5 m5 d5 MK ∧ n5 ≤ 100 ∧ m5 ≤ 100 ∧ ∀ a ∈ LK, JWf a
theorem OwJ.block_ne {w : World} {base e n c g t : Nat} {A : Option Addr} {L : List Jb} {cs : Array Value} (h : OwR RJ 4 w base e A n c L) (hg : w.heap[g]? = some (.cells cs t (0, 0))) (hne : e ≠ t) : A.map (·.block) ≠ some g := by
  rcases (OwJ.vals h).2 with ⟨e1, e2⟩ | ⟨g', cap, cur, e1, e2, e3, _⟩
  · injection e1 with e1; subst e1; simp
  · injection e1 with e1
    subst e1
    intro e5
    have : g' = g := by simpa using e5
    subst this
    rw [e3] at hg
    injection hg with hg
    injection hg with _ hg
    exact hne hg
theorem OwJ.setN {w : World} {base e n c g : Nat} {A : Option Addr} {L : List Jb} (h : OwR RJ 4 w base e A n c L) (hne : A.map (·.block) ≠ some g) (i : Nat) (u : Value) : OwR RJ 4 (w.setCell ⟨g, i, none⟩ u) base e A n c L :=
  OwJ.kept h fun g' hg' => heap_set_far _ _ _ _ _ (fun e => hne (by rw [hg', e]))

set_option maxRecDepth 100000 in
set_option maxHeartbeats 32000000 in
theorem queuemade_walk (A1 : Option Addr) (n1 c1 : Nat) (zs1 : List Int) (A2 : Option Addr) (n2 c2 : Nat) (zs2 : List Int) (j : Jb) (which how x : Int) (w : World) (hr1 : RdN w A1 n1 c1 zs1) (hr2 : RdN w A2 n2 c2 zs2) (hx : Hm x w) :
    Calls Tryd.prog 4 #[.slice A1 n1 c1, .slice A2 n2 c2, j.val, .int .i64 which, .int .i64 how] w fun e w' => e = .returned (.bool true) ∧ Below w.heap.size w w' := by
  obtain ⟨i0, hi0, hz0, hz1, hz2⟩ := info_parts job_info2
  have HAW := Lib.hid fun (W : World) (hW : Below w.heap.size w W) => awake_any x W (hx.below hW)
  have HX := Lib.hid fun (W : World) (hW : Below w.heap.size w W) => hx.below hW
  have HR2 : Hid (∀ W, Below w.heap.size w W → RdN W A2 n2 c2 zs2) := Lib.hid fun W hW => ⟨hr2.len, hr2.cap, hr2.max, (hr2.reads.below hW).more hW.size⟩
  have hal1 : Below w.heap.size w (w.alloc (.cells #[.int .i64 j.st, .string j.us, .int .i64 j.sp, .string j.nm] 28)) := (Below.refl _ _).alloc (Nat.le_refl _) _
  have kj1 : (w.alloc (.cells #[.int .i64 j.st, .string j.us, .int .i64 j.sp, .string j.nm] 28)).heap[w.heap.size]? = some (.cells #[.int .i64 j.st, .string j.us, .int .i64 j.sp, .string j.nm] 28 (0, 0)) := heap_new rfl
  have HM := Lib.hid (made_any A1 n1 c1 zs1 (w.alloc (.cells #[.int .i64 j.st, .string j.us, .int .i64 j.sp, .string j.nm] 28)) ⟨hr1.len, hr1.cap, hr1.max, (hr1.reads.below hal1).more hal1.size⟩)
  unfold Jb.val
  clear hr1 hr2 hx
  go_enter Tryd.func4, Tryd.ntmps4
  go_upto_region 1 with fail
  generalize w.alloc (.cells #[.int .i64 j.st, .string j.us, .int .i64 j.sp, .string j.nm] 28) = w1 at *
  go_wp2_with fail
  go_at_call 15
  refine HM.out.mono ?_
  rintro e w2 ⟨L, M, A, n, c, B, m, d, rfl, hL2, hM2, hLj, hMj, hnd, hl1, hl2, hb2⟩
  have hb02 := below_call hal1 hb2
  have kj2 := heap_call hb2 kj1
  have hn : n ≤ 11 := by have := hL2.len; omega
  have hm : m ≤ 11 := by have := hM2.len; omega
  have hbu : Below w2.heap.size w2 ((w2.alloc (.cells #[.slice A n c, .slice B m d] 24)).drew) := below_drewN ((Below.refl _ _).alloc (Nat.le_refl _) _) 1
  have kq : ((w2.alloc (.cells #[.slice A n c, .slice B m d] 24)).drew).heap[w2.heap.size]? = some (.cells #[.slice A n c, .slice B m d] 24 (0, 0)) := heap_new (w := w2) rfl
  have kj := heap_call hbu kj2
  have hb0y := below_call hb02 hbu
  have hLd := RdJ.below hL2 hbu
  have hMd := RdJ.below hM2 hbu
  clear HM hal1 kj1 kj2 hb2 hb02 hL2 hM2 hbu
  go_upto_region 2 with fail
  obtain ⟨gq, hgq⟩ : ∃ q, q = w2.heap.size := ⟨_, rfl⟩
  rw [← hgq] at kq ⊢
  clear hgq
  go_cut [12] (fun v12 wx => ∃ gb : Nat, v12 = .pointer (some ⟨gb, 0, none⟩) ∧ KS ((w2.alloc (.cells #[.slice A n c, .slice B m d] 24)).drew) L M n m gb wx)
  case first =>
    have HLN := Lib.hid hLd.len
    have HMN := Lib.hid hMd.len
    have HRL := Lib.hid fun (W : World) (hW : Below ((w2.alloc (.cells #[.slice A n c, .slice B m d] 24)).drew).heap.size ((w2.alloc (.cells #[.slice A n c, .slice B m d] 24)).drew) W) => RdJ.vals (RdJ.below hLd hW)
    have HRM := Lib.hid fun (W : World) (hW : Below ((w2.alloc (.cells #[.slice A n c, .slice B m d] 24)).drew).heap.size ((w2.alloc (.cells #[.slice A n c, .slice B m d] 24)).drew) W) => RdJ.vals (RdJ.below hMd hW)
    have hY0 : Below ((w2.alloc (.cells #[.slice A n c, .slice B m d] 24)).drew).heap.size ((w2.alloc (.cells #[.slice A n c, .slice B m d] 24)).drew) ((w2.alloc (.cells #[.slice A n c, .slice B m d] 24)).drew) := Below.refl _ _
    have hKK : Hid (∀ W, Below ((w2.alloc (.cells #[.slice A n c, .slice B m d] 24)).drew).heap.size ((w2.alloc (.cells #[.slice A n c, .slice B m d] 24)).drew) W → W.cell? ⟨gq, 0, none⟩ = some (.slice A n c) ∧ W.cell? ⟨gq, 1, none⟩ = some (.slice B m d)) := Lib.hid fun W hW => ⟨Blk.cell (heap_call hW kq) 0, Blk.cell (heap_call hW kq) 1⟩
    clear kj hb0y hLd hMd kq
    refine wp_region_held_drew (S := fun W => W.cell? ⟨gq, 0, none⟩ = some (.slice A n c) ∧ W.cell? ⟨gq, 1, none⟩ = some (.slice B m d)) (by kernel_rfl) ?_ (fun hHeld0 => ?_)
    · exact hKK.out _ (Below.refl _ _)
    clear hHeld0
    generalize ((w2.alloc (.cells #[.slice A n c, .slice B m d] 24)).drew) = yd at *
    have hHeld0 := hKK.out yd (Below.refl _ _)
    refine wpAnyH_take (i := 0) (oi := { dst := some 16, op := Go.Op.fieldAddr 24 (Go.Operand.tmp 11) 0, type := 0, pos := "law.go:69", after := #[], guard := none }) (v := .pointer (some ⟨gq, 0, none⟩)) rfl (by kernel_rfl) (by kernel_rfl) (by kernel_rfl) (fun _ _ _ h => h) (Or.inl ⟨by rfl, ?_⟩) (by assumption) ?_
    · (intro W hSw; (try dsimp only at hSw); go_simp; try with_reducible rfl)
    try simp only [Act.put, List.setIfInBounds_toArray, List.set_cons_zero, List.set_cons_succ]
    refine wpAnyH_take (i := 1) (oi := { dst := some 17, op := Go.Op.load 22 (Go.Operand.tmp 16), type := 22, pos := "law.go:69", after := #[{ on := 0, ground := Go.Ground.data }], guard := none }) (v := .slice A n c) rfl (by kernel_rfl) (by kernel_rfl) (by kernel_rfl) (fun _ _ _ h => h) (Or.inl ⟨by rfl, ?_⟩) (by assumption) ?_
    · (intro W hSw; (try dsimp only at hSw); go_simp; try with_reducible rfl)
    try simp only [Act.put, List.setIfInBounds_toArray, List.set_cons_zero, List.set_cons_succ]
    refine wpAnyH_take (i := 3) (oi := { dst := some 19, op := Go.Op.fieldAddr 24 (Go.Operand.tmp 11) 1, type := 0, pos := "law.go:69", after := #[], guard := none }) (v := .pointer (some ⟨gq, 1, none⟩)) rfl (by kernel_rfl) (by kernel_rfl) (by kernel_rfl) (fun _ _ _ h => h) (Or.inl ⟨by rfl, ?_⟩) (by assumption) ?_
    · (intro W hSw; (try dsimp only at hSw); go_simp; try with_reducible rfl)
    try simp only [Act.put, List.setIfInBounds_toArray, List.set_cons_zero, List.set_cons_succ]
    refine wpAnyH_take (i := 4) (oi := { dst := some 20, op := Go.Op.load 22 (Go.Operand.tmp 19), type := 22, pos := "law.go:69", after := #[{ on := 3, ground := Go.Ground.data }], guard := none }) (v := .slice B m d) rfl (by kernel_rfl) (by kernel_rfl) (by kernel_rfl) (fun _ _ _ h => h) (Or.inl ⟨by rfl, ?_⟩) (by assumption) ?_
    · (intro W hSw; (try dsimp only at hSw); go_simp; try with_reducible rfl)
    try simp only [Act.put, List.setIfInBounds_toArray, List.set_cons_zero, List.set_cons_succ]
    refine wpAnyH_ready (rs := [2, 7]) (by kernel_rfl) (by simp) ?_
    refine AllReadyH.cons (o := { dst := some 18, op := Go.Op.call { callee := Go.Callee.builtin Go.Builtin.append, args := #[Go.Operand.const (Go.Value.slice none 0 0), Go.Operand.tmp 17], argTypes := #[22, 22] }, type := 22, pos := "law.go:69", after := #[{ on := 1, ground := Go.Ground.data }], guard := none }) rfl (fun K hK => ?_) ?_
    · (refine step_append_r _ rfl (.const (.slice none 0 0)) (.tmp 17) 22 rfl 4 48 yd.heap.size 28 i0 _ RJ.stay (by decide) Tryd.underlying22 hi0 hz0 hz1 hz2 rfl (by omega) none 0 0 [] rfl (OwR.nil _ _ _ _ _) A n c (by simp [Act.eval, Act.put]) L (jcells L) (HRL.out yd hY0) (fits_jcells _ _) HLN.out (jcells_one _) ?_ ?_ ?_ ?_; (focus (unfold maxLen; omega)); (focus omega); (focus exact Nat.le_refl _); intro A5 c5 w5 ho5 hg5; rw [Nat.zero_add, List.nil_append] at ho5; rw [Nat.zero_add]; have hb2 := hg5.b; have hY2 := below_call hY0 hg5.b; clear hg5)
      refine hK.out _ _ ?_ (fun hHeld1 => ?_)
      · try dsimp only
        exact hKK.out _ hY2
      clear hK K
      try simp only [Act.put, List.setIfInBounds_toArray, List.set_cons_zero, List.set_cons_succ]
      refine wpAnyH_ready (rs := [5, 7]) (by kernel_rfl) (by simp) ?_
      refine AllReadyH.cons (o := { dst := some 21, op := Go.Op.call { callee := Go.Callee.builtin Go.Builtin.append, args := #[Go.Operand.const (Go.Value.slice none 0 0), Go.Operand.tmp 20], argTypes := #[22, 22] }, type := 22, pos := "law.go:69", after := #[{ on := 4, ground := Go.Ground.data }, { on := 2, ground := Go.Ground.chain }], guard := none }) rfl (fun K hK => ?_) ?_
      · (refine step_append_r _ rfl (.const (.slice none 0 0)) (.tmp 20) 22 rfl 4 48 w5.heap.size 28 i0 _ RJ.stay (by decide) Tryd.underlying22 hi0 hz0 hz1 hz2 rfl (by omega) none 0 0 [] rfl (OwR.nil _ _ _ _ _) B m d (by simp [Act.eval, Act.put]) M (jcells M) (HRM.out w5 hY2) (fits_jcells _ _) HMN.out (jcells_one _) ?_ ?_ ?_ ?_; (focus (unfold maxLen; omega)); (focus omega); (focus exact Nat.le_refl _); intro B5 d5 w6 ho6 hg6; rw [Nat.zero_add, List.nil_append] at ho6; rw [Nat.zero_add]; have hb5 := hg6.b; have hY5 := below_call hY2 hg6.b; clear hg6)
        refine hK.out _ _ ?_ (fun hHeld2 => ?_)
        · try dsimp only
          exact hKK.out _ hY5
        clear hK K
        try simp only [Act.put, List.setIfInBounds_toArray, List.set_cons_zero, List.set_cons_succ]
        refine wpAnyH_take (i := 6) (oi := { dst := some 22, op := Go.Op.build 24 #[(0, Go.Operand.tmp 18), (1, Go.Operand.tmp 21)], type := 24, pos := "law.go:69", after := #[{ on := 2, ground := Go.Ground.data }, { on := 5, ground := Go.Ground.data }], guard := none }) (v := .agg #[.slice A5 n c5, .slice B5 m d5]) rfl (by kernel_rfl) (by kernel_rfl) (by kernel_rfl) (fun _ _ _ h => h) (Or.inl ⟨by rfl, ?_⟩) (by assumption) ?_
        · (intro W hSw; (try dsimp only at hSw); go_simp; try with_reducible rfl)
        try simp only [Act.put, List.setIfInBounds_toArray, List.set_cons_zero, List.set_cons_succ]
        refine wpAnyH_ready (rs := [7]) (by kernel_rfl) (by simp) ?_
        refine AllReadyH.cons (o := { dst := some 12, op := Go.Op.alloc 24, type := 0, pos := "law.go:69", after := #[], guard := none }) rfl (fun K hK => ?_) ?_
        · go_simp
          refine hK.out _ _ ?_ (fun hHeld3 => ?_)
          · try dsimp only
            exact hKK.out _ (hY5.alloc hY5.size _)
          clear hK K
          try simp only [Act.put, List.setIfInBounds_toArray, List.set_cons_zero, List.set_cons_succ]
          have hb7 : Below w6.heap.size w6 (w6.alloc (.cells #[.slice none 0 0, .slice none 0 0] 24)) := (Below.refl _ _).alloc (Nat.le_refl _) _
          have kz : (w6.alloc (.cells #[.slice none 0 0, .slice none 0 0] 24)).heap[w6.heap.size]? = some (.cells #[.slice none 0 0, .slice none 0 0] 24 (0, 0)) := heap_new rfl
          have hY7 := below_call hY5 hb7
          generalize w6.alloc (.cells #[.slice none 0 0, .slice none 0 0] 24) = wz at *
          obtain ⟨gb, hgb⟩ : ∃ q, q = w6.heap.size := ⟨_, rfl⟩
          rw [← hgb] at kz ⊢
          have hgY : yd.heap.size ≤ gb := by rw [hgb]; exact hY5.size
          clear hgb
          have kgc := Blk.cell kz
          have kgf := Blk.frozen kz
          refine wpAnyH_ready (rs := [8]) (by kernel_rfl) (by simp) ?_
          refine AllReadyH.cons (o := { dst := none, op := Go.Op.store 24 (Go.Operand.tmp 12) (Go.Operand.tmp 22), type := 0, pos := "law.go:69", after := #[{ on := 7, ground := Go.Ground.data }, { on := 6, ground := Go.Ground.data }, { on := 5, ground := Go.Ground.chain }, { on := 0, ground := Go.Ground.phase }, { on := 1, ground := Go.Ground.phase }, { on := 2, ground := Go.Ground.phase }, { on := 3, ground := Go.Ground.phase }, { on := 4, ground := Go.Ground.phase }, { on := 5, ground := Go.Ground.phase }, { on := 6, ground := Go.Ground.phase }, { on := 7, ground := Go.Ground.phase }], guard := none }) rfl (fun K hK => ?_) ?_
          · go_simp
            refine hK.out _ _ ?_ (fun hHeld4 => ?_)
            · try dsimp only
              exact hKK.out _ ((hY7.setCell hgY _).setCell hgY _)
            clear hK K
            try simp only [Act.put, List.setIfInBounds_toArray, List.set_cons_zero, List.set_cons_succ]
            refine wpAnyH_done (by kernel_rfl) ?_ _
            have hO5 : OwR RJ 4 wz yd.heap.size 28 A5 n c5 L := (ho5.call RJ.stay (below_call hb5 hb7)).mono hY0.size
            have hO6 : OwR RJ 4 wz yd.heap.size 28 B5 m d5 M := (ho6.call RJ.stay hb7).mono hY2.size
            have hNe : Ne2 A5 B5 := fun b h1 h2 => by
              have q1 := (OwJ.lt ho5 b h1).2
              have q2 := (OwJ.lt ho6 b h2).1
              omega
            have hA := OwJ.block_ne hO5 kz (by decide)
            have hB := OwJ.block_ne hO6 kz (by decide)
            go_wp2_with fail
            go_meet
            exact ⟨gb, rfl, A5, c5, B5, d5, (hY7.setCell hgY _).setCell hgY _, hgY, heap_set_near _ _ _ _ _ _ (heap_set_near _ _ _ _ _ _ kz), OwJ.setN (OwJ.setN hO5 hA _ _) hA _ _, OwJ.setN (OwJ.setN hO6 hB _ _) hB _ _, hNe, hA, hB⟩
          exact AllReadyH.nil
        exact AllReadyH.nil
      refine AllReadyH.cons (o := { dst := some 12, op := Go.Op.alloc 24, type := 0, pos := "law.go:69", after := #[], guard := none }) rfl (fun K hK => ?_) ?_
      · go_simp
        refine hK.out _ _ ?_ (fun hHeld2 => ?_)
        · try dsimp only
          exact hKK.out _ (hY2.alloc hY2.size _)
        clear hK K
        try simp only [Act.put, List.setIfInBounds_toArray, List.set_cons_zero, List.set_cons_succ]
        have hb7 : Below w5.heap.size w5 (w5.alloc (.cells #[.slice none 0 0, .slice none 0 0] 24)) := (Below.refl _ _).alloc (Nat.le_refl _) _
        have kz : (w5.alloc (.cells #[.slice none 0 0, .slice none 0 0] 24)).heap[w5.heap.size]? = some (.cells #[.slice none 0 0, .slice none 0 0] 24 (0, 0)) := heap_new rfl
        have hY7 := below_call hY2 hb7
        generalize w5.alloc (.cells #[.slice none 0 0, .slice none 0 0] 24) = wz at *
        obtain ⟨gb, hgb⟩ : ∃ q, q = w5.heap.size := ⟨_, rfl⟩
        rw [← hgb] at kz ⊢
        have hgY : yd.heap.size ≤ gb := by rw [hgb]; exact hY2.size
        clear hgb
        refine wpAnyH_ready (rs := [5]) (by kernel_rfl) (by simp) ?_
        refine AllReadyH.cons (o := { dst := some 21, op := Go.Op.call { callee := Go.Callee.builtin Go.Builtin.append, args := #[Go.Operand.const (Go.Value.slice none 0 0), Go.Operand.tmp 20], argTypes := #[22, 22] }, type := 22, pos := "law.go:69", after := #[{ on := 4, ground := Go.Ground.data }, { on := 2, ground := Go.Ground.chain }], guard := none }) rfl (fun K hK => ?_) ?_
        · (refine step_append_r _ rfl (.const (.slice none 0 0)) (.tmp 20) 22 rfl 4 48 wz.heap.size 28 i0 _ RJ.stay (by decide) Tryd.underlying22 hi0 hz0 hz1 hz2 rfl (by omega) none 0 0 [] rfl (OwR.nil _ _ _ _ _) B m d (by simp [Act.eval, Act.put]) M (jcells M) (HRM.out wz hY7) (fits_jcells _ _) HMN.out (jcells_one _) ?_ ?_ ?_ ?_; (focus (unfold maxLen; omega)); (focus omega); (focus exact Nat.le_refl _); intro B5 d5 w6 ho6 hg6; rw [Nat.zero_add, List.nil_append] at ho6; rw [Nat.zero_add]; have hb5 := hg6.b; have hY5 := below_call hY7 hg6.b; clear hg6)
          refine hK.out _ _ ?_ (fun hHeld3 => ?_)
          · try dsimp only
            exact hKK.out _ hY5
          clear hK K
          try simp only [Act.put, List.setIfInBounds_toArray, List.set_cons_zero, List.set_cons_succ]
          have kz := heap_call hb5 kz
          have kgc := Blk.cell kz
          have kgf := Blk.frozen kz
          refine wpAnyH_take (i := 6) (oi := { dst := some 22, op := Go.Op.build 24 #[(0, Go.Operand.tmp 18), (1, Go.Operand.tmp 21)], type := 24, pos := "law.go:69", after := #[{ on := 2, ground := Go.Ground.data }, { on := 5, ground := Go.Ground.data }], guard := none }) (v := .agg #[.slice A5 n c5, .slice B5 m d5]) rfl (by kernel_rfl) (by kernel_rfl) (by kernel_rfl) (fun _ _ _ h => h) (Or.inl ⟨by rfl, ?_⟩) (by assumption) ?_
          · (intro W hSw; (try dsimp only at hSw); go_simp; try with_reducible rfl)
          try simp only [Act.put, List.setIfInBounds_toArray, List.set_cons_zero, List.set_cons_succ]
          refine wpAnyH_ready (rs := [8]) (by kernel_rfl) (by simp) ?_
          refine AllReadyH.cons (o := { dst := none, op := Go.Op.store 24 (Go.Operand.tmp 12) (Go.Operand.tmp 22), type := 0, pos := "law.go:69", after := #[{ on := 7, ground := Go.Ground.data }, { on := 6, ground := Go.Ground.data }, { on := 5, ground := Go.Ground.chain }, { on := 0, ground := Go.Ground.phase }, { on := 1, ground := Go.Ground.phase }, { on := 2, ground := Go.Ground.phase }, { on := 3, ground := Go.Ground.phase }, { on := 4, ground := Go.Ground.phase }, { on := 5, ground := Go.Ground.phase }, { on := 6, ground := Go.Ground.phase }, { on := 7, ground := Go.Ground.phase }], guard := none }) rfl (fun K hK => ?_) ?_
          · go_simp
            refine hK.out _ _ ?_ (fun hHeld4 => ?_)
            · try dsimp only
              exact hKK.out _ ((hY5.setCell hgY _).setCell hgY _)
            clear hK K
            try simp only [Act.put, List.setIfInBounds_toArray, List.set_cons_zero, List.set_cons_succ]
            refine wpAnyH_done (by kernel_rfl) ?_ _
            have hO5 : OwR RJ 4 w6 yd.heap.size 28 A5 n c5 L := (ho5.call RJ.stay (below_call hb7 hb5)).mono hY0.size
            have hO6 : OwR RJ 4 w6 yd.heap.size 28 B5 m d5 M := ho6.mono hY7.size
            have hNe : Ne2 A5 B5 := fun b h1 h2 => by
              have q1 := (OwJ.lt ho5 b h1).2
              have q2 := (OwJ.lt ho6 b h2).1
              have q3 := hb7.size
              omega
            have hA := OwJ.block_ne hO5 kz (by decide)
            have hB := OwJ.block_ne hO6 kz (by decide)
            go_wp2_with fail
            go_meet
            exact ⟨gb, rfl, A5, c5, B5, d5, (hY5.setCell hgY _).setCell hgY _, hgY, heap_set_near _ _ _ _ _ _ (heap_set_near _ _ _ _ _ _ kz), OwJ.setN (OwJ.setN hO5 hA _ _) hA _ _, OwJ.setN (OwJ.setN hO6 hB _ _) hB _ _, hNe, hA, hB⟩
          exact AllReadyH.nil
        exact AllReadyH.nil
      exact AllReadyH.nil
    refine AllReadyH.cons (o := { dst := some 12, op := Go.Op.alloc 24, type := 0, pos := "law.go:69", after := #[], guard := none }) rfl (fun K hK => ?_) ?_
    · go_simp
      refine hK.out _ _ ?_ (fun hHeld1 => ?_)
      · try dsimp only
        exact hKK.out _ (hY0.alloc hY0.size _)
      clear hK K
      try simp only [Act.put, List.setIfInBounds_toArray, List.set_cons_zero, List.set_cons_succ]
      have hb7 : Below yd.heap.size yd (yd.alloc (.cells #[.slice none 0 0, .slice none 0 0] 24)) := (Below.refl _ _).alloc (Nat.le_refl _) _
      have kz : (yd.alloc (.cells #[.slice none 0 0, .slice none 0 0] 24)).heap[yd.heap.size]? = some (.cells #[.slice none 0 0, .slice none 0 0] 24 (0, 0)) := heap_new rfl
      have hY7 := below_call hY0 hb7
      generalize yd.alloc (.cells #[.slice none 0 0, .slice none 0 0] 24) = wz at *
      obtain ⟨gb, hgb⟩ : ∃ q, q = yd.heap.size := ⟨_, rfl⟩
      rw [← hgb] at kz ⊢
      have hgY : yd.heap.size ≤ gb := by rw [hgb]; exact hY0.size
      clear hgb
      refine wpAnyH_ready (rs := [2]) (by kernel_rfl) (by simp) ?_
      refine AllReadyH.cons (o := { dst := some 18, op := Go.Op.call { callee := Go.Callee.builtin Go.Builtin.append, args := #[Go.Operand.const (Go.Value.slice none 0 0), Go.Operand.tmp 17], argTypes := #[22, 22] }, type := 22, pos := "law.go:69", after := #[{ on := 1, ground := Go.Ground.data }], guard := none }) rfl (fun K hK => ?_) ?_
      · (refine step_append_r _ rfl (.const (.slice none 0 0)) (.tmp 17) 22 rfl 4 48 wz.heap.size 28 i0 _ RJ.stay (by decide) Tryd.underlying22 hi0 hz0 hz1 hz2 rfl (by omega) none 0 0 [] rfl (OwR.nil _ _ _ _ _) A n c (by simp [Act.eval, Act.put]) L (jcells L) (HRL.out wz hY7) (fits_jcells _ _) HLN.out (jcells_one _) ?_ ?_ ?_ ?_; (focus (unfold maxLen; omega)); (focus omega); (focus exact Nat.le_refl _); intro A5 c5 w5 ho5 hg5; rw [Nat.zero_add, List.nil_append] at ho5; rw [Nat.zero_add]; have hb2 := hg5.b; have hY2 := below_call hY7 hg5.b; clear hg5)
        refine hK.out _ _ ?_ (fun hHeld2 => ?_)
        · try dsimp only
          exact hKK.out _ hY2
        clear hK K
        try simp only [Act.put, List.setIfInBounds_toArray, List.set_cons_zero, List.set_cons_succ]
        refine wpAnyH_ready (rs := [5]) (by kernel_rfl) (by simp) ?_
        refine AllReadyH.cons (o := { dst := some 21, op := Go.Op.call { callee := Go.Callee.builtin Go.Builtin.append, args := #[Go.Operand.const (Go.Value.slice none 0 0), Go.Operand.tmp 20], argTypes := #[22, 22] }, type := 22, pos := "law.go:69", after := #[{ on := 4, ground := Go.Ground.data }, { on := 2, ground := Go.Ground.chain }], guard := none }) rfl (fun K hK => ?_) ?_
        · (refine step_append_r _ rfl (.const (.slice none 0 0)) (.tmp 20) 22 rfl 4 48 w5.heap.size 28 i0 _ RJ.stay (by decide) Tryd.underlying22 hi0 hz0 hz1 hz2 rfl (by omega) none 0 0 [] rfl (OwR.nil _ _ _ _ _) B m d (by simp [Act.eval, Act.put]) M (jcells M) (HRM.out w5 hY2) (fits_jcells _ _) HMN.out (jcells_one _) ?_ ?_ ?_ ?_; (focus (unfold maxLen; omega)); (focus omega); (focus exact Nat.le_refl _); intro B5 d5 w6 ho6 hg6; rw [Nat.zero_add, List.nil_append] at ho6; rw [Nat.zero_add]; have hb5 := hg6.b; have hY5 := below_call hY2 hg6.b; clear hg6)
          refine hK.out _ _ ?_ (fun hHeld3 => ?_)
          · try dsimp only
            exact hKK.out _ hY5
          clear hK K
          try simp only [Act.put, List.setIfInBounds_toArray, List.set_cons_zero, List.set_cons_succ]
          have kz := heap_call (below_call hb2 hb5) kz
          have kgc := Blk.cell kz
          have kgf := Blk.frozen kz
          refine wpAnyH_take (i := 6) (oi := { dst := some 22, op := Go.Op.build 24 #[(0, Go.Operand.tmp 18), (1, Go.Operand.tmp 21)], type := 24, pos := "law.go:69", after := #[{ on := 2, ground := Go.Ground.data }, { on := 5, ground := Go.Ground.data }], guard := none }) (v := .agg #[.slice A5 n c5, .slice B5 m d5]) rfl (by kernel_rfl) (by kernel_rfl) (by kernel_rfl) (fun _ _ _ h => h) (Or.inl ⟨by rfl, ?_⟩) (by assumption) ?_
          · (intro W hSw; (try dsimp only at hSw); go_simp; try with_reducible rfl)
          try simp only [Act.put, List.setIfInBounds_toArray, List.set_cons_zero, List.set_cons_succ]
          refine wpAnyH_ready (rs := [8]) (by kernel_rfl) (by simp) ?_
          refine AllReadyH.cons (o := { dst := none, op := Go.Op.store 24 (Go.Operand.tmp 12) (Go.Operand.tmp 22), type := 0, pos := "law.go:69", after := #[{ on := 7, ground := Go.Ground.data }, { on := 6, ground := Go.Ground.data }, { on := 5, ground := Go.Ground.chain }, { on := 0, ground := Go.Ground.phase }, { on := 1, ground := Go.Ground.phase }, { on := 2, ground := Go.Ground.phase }, { on := 3, ground := Go.Ground.phase }, { on := 4, ground := Go.Ground.phase }, { on := 5, ground := Go.Ground.phase }, { on := 6, ground := Go.Ground.phase }, { on := 7, ground := Go.Ground.phase }], guard := none }) rfl (fun K hK => ?_) ?_
          · go_simp
            refine hK.out _ _ ?_ (fun hHeld4 => ?_)
            · try dsimp only
              exact hKK.out _ ((hY5.setCell hgY _).setCell hgY _)
            clear hK K
            try simp only [Act.put, List.setIfInBounds_toArray, List.set_cons_zero, List.set_cons_succ]
            refine wpAnyH_done (by kernel_rfl) ?_ _
            have hO5 : OwR RJ 4 w6 yd.heap.size 28 A5 n c5 L := (ho5.call RJ.stay hb5).mono hY7.size
            have hO6 : OwR RJ 4 w6 yd.heap.size 28 B5 m d5 M := ho6.mono hY2.size
            have hNe : Ne2 A5 B5 := fun b h1 h2 => by
              have q1 := (OwJ.lt ho5 b h1).2
              have q2 := (OwJ.lt ho6 b h2).1
              omega
            have hA := OwJ.block_ne hO5 kz (by decide)
            have hB := OwJ.block_ne hO6 kz (by decide)
            go_wp2_with fail
            go_meet
            exact ⟨gb, rfl, A5, c5, B5, d5, (hY5.setCell hgY _).setCell hgY _, hgY, heap_set_near _ _ _ _ _ _ (heap_set_near _ _ _ _ _ _ kz), OwJ.setN (OwJ.setN hO5 hA _ _) hA _ _, OwJ.setN (OwJ.setN hO6 hB _ _) hB _ _, hNe, hA, hB⟩
          exact AllReadyH.nil
        exact AllReadyH.nil
      exact AllReadyH.nil
    exact AllReadyH.nil
  case rest =>
    obtain ⟨gb, rfl, A5, c5, B5, d5, hY, hgY, kb, hO5, hO6, hNe, hA, hB⟩ := hcut
    obtain ⟨w5, rfl⟩ : ∃ q, q = wc := ⟨_, rfl⟩
    generalize ((w2.alloc (.cells #[.slice A n c, .slice B m d] 24)).drew) = yd at *
    have hLM : (∀ j ∈ L, JWf j) := fun a ha => (hLj a ha).wf
    have HLW := Lib.hid hLM
    clear hLM
    have kcb := Blk.cell kb
    by_cases h0 : n = 0
    · have hK : KF yd gb w5 := ⟨L, M, A5, n, c5, B5, m, d5, hY, kb, hO5.rd, hO6.rd, by omega, by omega, HLW.out⟩
      have z1 : ¬ (0 : Int) < (n : Int) := by omega
      clear hO5 hO6 hNe hA hB kb hY hgY
      obtain ⟨wk, rfl⟩ : ∃ q, q = w5 := ⟨_, rfl⟩
      clear h0
      go_upto_region 13 with fail
      clear kcb z1
      obtain ⟨LK, MK, A6, n6, c6, B6, m6, d6, hYk, kbk, hLk, hMk, hn6, hm6, hwk⟩ := hK
      have hbk : Below wk.heap.size wk wk.drew := below_drewN (Below.refl _ _) 1
      have hYd := below_call hYk hbk
      have hb0d := below_call hb0y hYd
      have kqd := heap_call hYd kq
      have kjd := heap_call hYd kj
      have kbd := heap_call hbk kbk
      have HLq := Lib.hid (RdJ.below hLd hYd)
      have HMq := Lib.hid (RdJ.below hMd hYd)
      have HLk := Lib.hid (RdJ.below hLk hbk)
      have HMk := Lib.hid (RdJ.below hMk hbk)
      clear hLk hMk kbk hYk hbk hYd
      have hKK : Hid (∀ W, Below wk.drew.heap.size wk.drew W → W.cell? ⟨gq, 0, none⟩ = some (.slice A n c) ∧ W.cell? ⟨gq, 1, none⟩ = some (.slice B m d) ∧ W.cell? ⟨gb, 0, none⟩ = some (.slice A6 n6 c6) ∧ W.cell? ⟨gb, 1, none⟩ = some (.slice B6 m6 d6) ∧ W.cell? ⟨w.heap.size, 0, none⟩ = some (.int .i64 j.st) ∧ W.cell? ⟨w.heap.size, 1, none⟩ = some (.string j.us) ∧ W.cell? ⟨w.heap.size, 2, none⟩ = some (.int .i64 j.sp) ∧ W.cell? ⟨w.heap.size, 3, none⟩ = some (.string j.nm)) := Lib.hid fun W hW => ⟨Blk.cell (heap_call hW kqd) 0, Blk.cell (heap_call hW kqd) 1, Blk.cell (heap_call hW kbd) 0, Blk.cell (heap_call hW kbd) 1, Blk.cell (heap_call hW kjd) 0, Blk.cell (heap_call hW kjd) 1, Blk.cell (heap_call hW kjd) 2, Blk.cell (heap_call hW kjd) 3⟩
      have HCQ : Hid (∀ (a : Jb) (W : World), Below wk.drew.heap.size wk.drew W → Calls Tryd.prog 12 #[.agg #[.slice A n c, .slice B m d], a.val] W fun e w' => e = .returned (.bool true) ∧ Below W.heap.size W w') := Lib.hid fun a W hW => compares_any A n c L B m d M a x W (RdJ.below HLq.out hW) (RdJ.below HMq.out hW) (HX.out W (below_call hb0d hW)) (by omega) (by omega) (fun b hb => (hLj b hb).wf)
      have HCK : Hid (∀ (a : Jb) (W : World), Below wk.drew.heap.size wk.drew W → Calls Tryd.prog 12 #[.agg #[.slice A6 n6 c6, .slice B6 m6 d6], a.val] W fun e w' => e = .returned (.bool true) ∧ Below W.heap.size W w') := Lib.hid fun a W hW => compares_any A6 n6 c6 LK B6 m6 d6 MK a x W (RdJ.below HLk.out hW) (RdJ.below HMk.out hW) (HX.out W (below_call hb0d hW)) (by omega) (by omega) hwk
      have HCJ := Lib.hid (HCQ.out j)
      unfold Jb.val at HCJ
      have HVQ : Hid (∀ W : World, Below wk.drew.heap.size wk.drew W → Calls Tryd.prog 17 #[.agg #[.slice A n c, .slice B m d]] W fun e w' => e = .returned (.bool true) ∧ Below W.heap.size W w') := Lib.hid fun W hW => by
        have := valid_any A n c L B m d M x W (RdJ.below HLq.out hW) (RdJ.below HMq.out hW) (HX.out W (below_call hb0d hW)) (fun b hb => (hLj b hb).wf)
        rw [qv_trueM hLj hMj hnd] at this
        exact this
      have HAK := Lib.hid fun (W : World) (hW : Below wk.drew.heap.size wk.drew W) => HAW.out W (below_call hb0d hW)
      have HRK := Lib.hid fun (W : World) (hW : Below wk.drew.heap.size wk.drew W) => HR2.out W (below_call hb0d hW)
      have hY0 : Below wk.drew.heap.size wk.drew wk.drew := Below.refl _ _
      refine wp_region_held_drew (S := fun W => W.cell? ⟨gq, 0, none⟩ = some (.slice A n c) ∧ W.cell? ⟨gq, 1, none⟩ = some (.slice B m d) ∧ W.cell? ⟨gb, 0, none⟩ = some (.slice A6 n6 c6) ∧ W.cell? ⟨gb, 1, none⟩ = some (.slice B6 m6 d6) ∧ W.cell? ⟨w.heap.size, 0, none⟩ = some (.int .i64 j.st) ∧ W.cell? ⟨w.heap.size, 1, none⟩ = some (.string j.us) ∧ W.cell? ⟨w.heap.size, 2, none⟩ = some (.int .i64 j.sp) ∧ W.cell? ⟨w.heap.size, 3, none⟩ = some (.string j.nm)) (by kernel_rfl) ?_ (fun hHeld0 => ?_)
      · exact hKK.out _ (Below.refl _ _)
      clear hHeld0
      generalize wk.drew = wd at *
      have hHeld0 := hKK.out wd (Below.refl _ _)
      refine wpAnyH_ready (rs := [0]) (by kernel_rfl) (by simp) ?_
      refine AllReadyH.cons (o := { dst := some 78, op := Go.Op.call { callee := Go.Callee.value (Go.Operand.func 11), args := #[], argTypes := #[] }, type := 4, pos := "law.go:82", after := #[], guard := none }) rfl (fun K hK => ?_) ?_
      · go_simp
        (go_at_call 11; refine (HAK.out _ hY0).mono ?_; rintro e v0 ⟨rfl, hq0⟩; have hY0_ := below_call hY0 hq0; clear hq0)
        refine hK.out _ _ ?_ (fun hHeld1 => ?_)
        · try dsimp only
          exact hKK.out _ hY0_
        clear hK K
        try simp only [Act.put, List.setIfInBounds_toArray, List.set_cons_zero, List.set_cons_succ]
        refine wpAnyH_take (i := 1) (oi := { dst := some 79, op := Go.Op.move (Go.Operand.tmp 78), type := 4, pos := "law.go:82", after := #[{ on := 0, ground := Go.Ground.data }, { on := 0, ground := Go.Ground.chain }], guard := none }) (v := .bool true) rfl (by kernel_rfl) (by kernel_rfl) (by kernel_rfl) (fun _ _ _ h => h) (Or.inl ⟨by rfl, ?_⟩) (by assumption) ?_
        · (intro W hSw; (try dsimp only at hSw); go_simp; try with_reducible rfl)
        try simp only [Act.put, List.setIfInBounds_toArray, List.set_cons_zero, List.set_cons_succ]
        refine wpAnyH_take (i := 2) (oi := { dst := some 80, op := Go.Op.load 24 (Go.Operand.tmp 11), type := 24, pos := "law.go:82", after := #[{ on := 1, ground := Go.Ground.guard }], guard := some (1, true) }) (v := .agg #[.slice A n c, .slice B m d]) rfl (by kernel_rfl) (by kernel_rfl) (by kernel_rfl) (fun _ _ _ h => h) (Or.inl ⟨by rfl, ?_⟩) (by assumption) ?_
        · (intro W hSw; (try dsimp only at hSw); go_simp; try with_reducible rfl)
        try simp only [Act.put, List.setIfInBounds_toArray, List.set_cons_zero, List.set_cons_succ]
        refine wpAnyH_take (i := 3) (oi := { dst := some 81, op := Go.Op.move (Go.Operand.tmp 1), type := 29, pos := "law.go:82", after := #[{ on := 1, ground := Go.Ground.guard }], guard := some (1, true) }) (v := .slice A2 n2 c2) rfl (by kernel_rfl) (by kernel_rfl) (by kernel_rfl) (fun _ _ _ h => h) (Or.inl ⟨by rfl, ?_⟩) (by assumption) ?_
        · (intro W hSw; (try dsimp only at hSw); go_simp; try with_reducible rfl)
        try simp only [Act.put, List.setIfInBounds_toArray, List.set_cons_zero, List.set_cons_succ]
        refine wpAnyH_ready (rs := [4]) (by kernel_rfl) (by simp) ?_
        refine AllReadyH.cons (o := { dst := some 82, op := Go.Op.call { callee := Go.Callee.value (Go.Operand.func 14), args := #[Go.Operand.tmp 81], argTypes := #[29] }, type := 34, pos := "law.go:82", after := #[{ on := 3, ground := Go.Ground.data }, { on := 1, ground := Go.Ground.chain }, { on := 1, ground := Go.Ground.guard }], guard := some (1, true) }) rfl (fun K hK => ?_) ?_
        · go_simp
          (go_at_call 14; refine (from_any A2 n2 c2 zs2 v0 (HRK.out _ hY0_)).mono ?_; rintro e v4 ⟨vv4, rfl, ⟨g4, rfl, hg4, hs4⟩, hq4⟩; have hY4_ := below_call hY0_ hq4; have HRN4 := Lib.hid (HRK.out _ hY0_))
          refine hK.out _ _ ?_ (fun hHeld2 => ?_)
          · try dsimp only
            exact hKK.out _ hY4_
          clear hK K
          try simp only [Act.put, List.setIfInBounds_toArray, List.set_cons_zero, List.set_cons_succ]
          refine wpAnyH_ready (rs := [5]) (by kernel_rfl) (by simp) ?_
          refine AllReadyH.cons (o := { dst := some 83, op := Go.Op.call { callee := Go.Callee.value (Go.Operand.func 13), args := #[Go.Operand.tmp 82], argTypes := #[34] }, type := 28, pos := "law.go:82", after := #[{ on := 4, ground := Go.Ground.data }, { on := 4, ground := Go.Ground.chain }, { on := 1, ground := Go.Ground.guard }], guard := some (1, true) }) rfl (fun K hK => ?_) ?_
          · go_simp
            (go_at_call 13; refine (job_any v0 g4 A2 n2 c2 zs2 v4 HRN4.out hq4 hg4 hs4).mono ?_; rintro e v5 ⟨jj5, hjj5, rfl, hs5, hgr5⟩; have hq5b := below_grown hq4 hq4.size hgr5 hg4; have hY5_ := below_call hY0_ hq5b; clear hjj5 hs5 hgr5 hq5b hq4 hs4 hg4 HRN4 hY4_)
            refine hK.out _ _ ?_ (fun hHeld3 => ?_)
            · try dsimp only
              exact hKK.out _ hY5_
            clear hK K
            try simp only [Act.put, List.setIfInBounds_toArray, List.set_cons_zero, List.set_cons_succ]
            refine wpAnyH_ready (rs := [6]) (by kernel_rfl) (by simp) ?_
            refine AllReadyH.cons (o := { dst := some 84, op := Go.Op.call { callee := Go.Callee.value (Go.Operand.func 12), args := #[Go.Operand.tmp 80, Go.Operand.tmp 83], argTypes := #[24, 28] }, type := 4, pos := "law.go:82", after := #[{ on := 2, ground := Go.Ground.data }, { on := 5, ground := Go.Ground.data }, { on := 5, ground := Go.Ground.chain }, { on := 1, ground := Go.Ground.guard }], guard := some (1, true) }) rfl (fun K hK => ?_) ?_
            · go_simp
              (go_at_call 12; refine (HCQ.out jj5 _ hY5_).mono ?_; rintro e v6 ⟨rfl, hq6⟩; have hY6_ := below_call hY5_ hq6; clear hq6)
              refine hK.out _ _ ?_ (fun hHeld4 => ?_)
              · try dsimp only
                exact hKK.out _ hY6_
              clear hK K
              try simp only [Act.put, List.setIfInBounds_toArray, List.set_cons_zero, List.set_cons_succ]
              refine wpAnyH_take (i := 7) (oi := { dst := some 85, op := Go.Op.pick (Go.Operand.tmp 79) (Go.Operand.tmp 84) (Go.Operand.const (Go.Value.bool false)), type := 4, pos := "law.go:82", after := #[{ on := 1, ground := Go.Ground.data }, { on := 6, ground := Go.Ground.data }], guard := none }) (v := .bool true) rfl (by kernel_rfl) (by kernel_rfl) (by kernel_rfl) (fun _ _ _ h => h) (Or.inl ⟨by rfl, ?_⟩) (by assumption) ?_
              · (intro W hSw; (try dsimp only at hSw); go_simp; try with_reducible rfl)
              try simp only [Act.put, List.setIfInBounds_toArray, List.set_cons_zero, List.set_cons_succ]
              refine wpAnyH_take (i := 8) (oi := { dst := some 86, op := Go.Op.move (Go.Operand.tmp 85), type := 4, pos := "law.go:82", after := #[{ on := 7, ground := Go.Ground.data }, { on := 6, ground := Go.Ground.chain }], guard := none }) (v := .bool true) rfl (by kernel_rfl) (by kernel_rfl) (by kernel_rfl) (fun _ _ _ h => h) (Or.inl ⟨by rfl, ?_⟩) (by assumption) ?_
              · (intro W hSw; (try dsimp only at hSw); go_simp; try with_reducible rfl)
              try simp only [Act.put, List.setIfInBounds_toArray, List.set_cons_zero, List.set_cons_succ]
              refine wpAnyH_take (i := 9) (oi := { dst := some 87, op := Go.Op.load 24 (Go.Operand.tmp 12), type := 24, pos := "law.go:82", after := #[{ on := 8, ground := Go.Ground.guard }], guard := some (8, true) }) (v := .agg #[.slice A6 n6 c6, .slice B6 m6 d6]) rfl (by kernel_rfl) (by kernel_rfl) (by kernel_rfl) (fun _ _ _ h => h) (Or.inl ⟨by rfl, ?_⟩) (by assumption) ?_
              · (intro W hSw; (try dsimp only at hSw); go_simp; try with_reducible rfl)
              try simp only [Act.put, List.setIfInBounds_toArray, List.set_cons_zero, List.set_cons_succ]
              refine wpAnyH_take (i := 10) (oi := { dst := some 88, op := Go.Op.move (Go.Operand.tmp 1), type := 29, pos := "law.go:82", after := #[{ on := 8, ground := Go.Ground.guard }], guard := some (8, true) }) (v := .slice A2 n2 c2) rfl (by kernel_rfl) (by kernel_rfl) (by kernel_rfl) (fun _ _ _ h => h) (Or.inl ⟨by rfl, ?_⟩) (by assumption) ?_
              · (intro W hSw; (try dsimp only at hSw); go_simp; try with_reducible rfl)
              try simp only [Act.put, List.setIfInBounds_toArray, List.set_cons_zero, List.set_cons_succ]
              refine wpAnyH_ready (rs := [11]) (by kernel_rfl) (by simp) ?_
              refine AllReadyH.cons (o := { dst := some 89, op := Go.Op.call { callee := Go.Callee.value (Go.Operand.func 14), args := #[Go.Operand.tmp 88], argTypes := #[29] }, type := 34, pos := "law.go:82", after := #[{ on := 10, ground := Go.Ground.data }, { on := 8, ground := Go.Ground.chain }, { on := 8, ground := Go.Ground.guard }], guard := some (8, true) }) rfl (fun K hK => ?_) ?_
              · go_simp
                (go_at_call 14; refine (from_any A2 n2 c2 zs2 v6 (HRK.out _ hY6_)).mono ?_; rintro e v11 ⟨vv11, rfl, ⟨g11, rfl, hg11, hs11⟩, hq11⟩; have hY11_ := below_call hY6_ hq11; have HRN11 := Lib.hid (HRK.out _ hY6_))
                refine hK.out _ _ ?_ (fun hHeld5 => ?_)
                · try dsimp only
                  exact hKK.out _ hY11_
                clear hK K
                try simp only [Act.put, List.setIfInBounds_toArray, List.set_cons_zero, List.set_cons_succ]
                refine wpAnyH_ready (rs := [12]) (by kernel_rfl) (by simp) ?_
                refine AllReadyH.cons (o := { dst := some 90, op := Go.Op.call { callee := Go.Callee.value (Go.Operand.func 13), args := #[Go.Operand.tmp 89], argTypes := #[34] }, type := 28, pos := "law.go:82", after := #[{ on := 11, ground := Go.Ground.data }, { on := 11, ground := Go.Ground.chain }, { on := 8, ground := Go.Ground.guard }], guard := some (8, true) }) rfl (fun K hK => ?_) ?_
                · go_simp
                  (go_at_call 13; refine (job_any v6 g11 A2 n2 c2 zs2 v11 HRN11.out hq11 hg11 hs11).mono ?_; rintro e v12 ⟨jj12, hjj12, rfl, hs12, hgr12⟩; have hq12b := below_grown hq11 hq11.size hgr12 hg11; have hY12_ := below_call hY6_ hq12b; clear hjj12 hs12 hgr12 hq12b hq11 hs11 hg11 HRN11 hY11_)
                  refine hK.out _ _ ?_ (fun hHeld6 => ?_)
                  · try dsimp only
                    exact hKK.out _ hY12_
                  clear hK K
                  try simp only [Act.put, List.setIfInBounds_toArray, List.set_cons_zero, List.set_cons_succ]
                  refine wpAnyH_ready (rs := [13]) (by kernel_rfl) (by simp) ?_
                  refine AllReadyH.cons (o := { dst := some 91, op := Go.Op.call { callee := Go.Callee.value (Go.Operand.func 12), args := #[Go.Operand.tmp 87, Go.Operand.tmp 90], argTypes := #[24, 28] }, type := 4, pos := "law.go:82", after := #[{ on := 9, ground := Go.Ground.data }, { on := 12, ground := Go.Ground.data }, { on := 12, ground := Go.Ground.chain }, { on := 8, ground := Go.Ground.guard }], guard := some (8, true) }) rfl (fun K hK => ?_) ?_
                  · go_simp
                    (go_at_call 12; refine (HCK.out jj12 _ hY12_).mono ?_; rintro e v13 ⟨rfl, hq13⟩; have hY13_ := below_call hY12_ hq13; clear hq13)
                    refine hK.out _ _ ?_ (fun hHeld7 => ?_)
                    · try dsimp only
                      exact hKK.out _ hY13_
                    clear hK K
                    try simp only [Act.put, List.setIfInBounds_toArray, List.set_cons_zero, List.set_cons_succ]
                    refine wpAnyH_take (i := 14) (oi := { dst := some 92, op := Go.Op.pick (Go.Operand.tmp 86) (Go.Operand.tmp 91) (Go.Operand.const (Go.Value.bool false)), type := 4, pos := "law.go:82", after := #[{ on := 8, ground := Go.Ground.data }, { on := 13, ground := Go.Ground.data }], guard := none }) (v := .bool true) rfl (by kernel_rfl) (by kernel_rfl) (by kernel_rfl) (fun _ _ _ h => h) (Or.inl ⟨by rfl, ?_⟩) (by assumption) ?_
                    · (intro W hSw; (try dsimp only at hSw); go_simp; try with_reducible rfl)
                    try simp only [Act.put, List.setIfInBounds_toArray, List.set_cons_zero, List.set_cons_succ]
                    refine wpAnyH_take (i := 15) (oi := { dst := some 93, op := Go.Op.move (Go.Operand.tmp 92), type := 4, pos := "law.go:82", after := #[{ on := 14, ground := Go.Ground.data }, { on := 13, ground := Go.Ground.chain }], guard := none }) (v := .bool true) rfl (by kernel_rfl) (by kernel_rfl) (by kernel_rfl) (fun _ _ _ h => h) (Or.inl ⟨by rfl, ?_⟩) (by assumption) ?_
                    · (intro W hSw; (try dsimp only at hSw); go_simp; try with_reducible rfl)
                    try simp only [Act.put, List.setIfInBounds_toArray, List.set_cons_zero, List.set_cons_succ]
                    refine wpAnyH_take (i := 16) (oi := { dst := some 94, op := Go.Op.load 24 (Go.Operand.tmp 11), type := 24, pos := "law.go:82", after := #[{ on := 15, ground := Go.Ground.guard }], guard := some (15, true) }) (v := .agg #[.slice A n c, .slice B m d]) rfl (by kernel_rfl) (by kernel_rfl) (by kernel_rfl) (fun _ _ _ h => h) (Or.inl ⟨by rfl, ?_⟩) (by assumption) ?_
                    · (intro W hSw; (try dsimp only at hSw); go_simp; try with_reducible rfl)
                    try simp only [Act.put, List.setIfInBounds_toArray, List.set_cons_zero, List.set_cons_succ]
                    refine wpAnyH_take (i := 17) (oi := { dst := some 95, op := Go.Op.load 28 (Go.Operand.tmp 7), type := 28, pos := "law.go:82", after := #[{ on := 15, ground := Go.Ground.guard }], guard := some (15, true) }) (v := .agg #[.int .i64 j.st, .string j.us, .int .i64 j.sp, .string j.nm]) rfl (by kernel_rfl) (by kernel_rfl) (by kernel_rfl) (fun _ _ _ h => h) (Or.inl ⟨by rfl, ?_⟩) (by assumption) ?_
                    · (intro W hSw; (try dsimp only at hSw); go_simp; try with_reducible rfl)
                    try simp only [Act.put, List.setIfInBounds_toArray, List.set_cons_zero, List.set_cons_succ]
                    refine wpAnyH_ready (rs := [18]) (by kernel_rfl) (by simp) ?_
                    refine AllReadyH.cons (o := { dst := some 96, op := Go.Op.call { callee := Go.Callee.value (Go.Operand.func 12), args := #[Go.Operand.tmp 94, Go.Operand.tmp 95], argTypes := #[24, 28] }, type := 4, pos := "law.go:82", after := #[{ on := 16, ground := Go.Ground.data }, { on := 17, ground := Go.Ground.data }, { on := 15, ground := Go.Ground.chain }, { on := 15, ground := Go.Ground.guard }], guard := some (15, true) }) rfl (fun K hK => ?_) ?_
                    · go_simp
                      (go_at_call 12; refine (HCJ.out _ hY13_).mono ?_; rintro e v18 ⟨rfl, hq18⟩; have hY18_ := below_call hY13_ hq18; clear hq18)
                      refine hK.out _ _ ?_ (fun hHeld8 => ?_)
                      · try dsimp only
                        exact hKK.out _ hY18_
                      clear hK K
                      try simp only [Act.put, List.setIfInBounds_toArray, List.set_cons_zero, List.set_cons_succ]
                      refine wpAnyH_take (i := 19) (oi := { dst := some 97, op := Go.Op.pick (Go.Operand.tmp 93) (Go.Operand.tmp 96) (Go.Operand.const (Go.Value.bool false)), type := 4, pos := "law.go:82", after := #[{ on := 15, ground := Go.Ground.data }, { on := 18, ground := Go.Ground.data }], guard := none }) (v := .bool true) rfl (by kernel_rfl) (by kernel_rfl) (by kernel_rfl) (fun _ _ _ h => h) (Or.inl ⟨by rfl, ?_⟩) (by assumption) ?_
                      · (intro W hSw; (try dsimp only at hSw); go_simp; try with_reducible rfl)
                      try simp only [Act.put, List.setIfInBounds_toArray, List.set_cons_zero, List.set_cons_succ]
                      refine wpAnyH_take (i := 20) (oi := { dst := some 98, op := Go.Op.move (Go.Operand.tmp 97), type := 4, pos := "law.go:82", after := #[{ on := 19, ground := Go.Ground.data }, { on := 18, ground := Go.Ground.chain }], guard := none }) (v := .bool true) rfl (by kernel_rfl) (by kernel_rfl) (by kernel_rfl) (fun _ _ _ h => h) (Or.inl ⟨by rfl, ?_⟩) (by assumption) ?_
                      · (intro W hSw; (try dsimp only at hSw); go_simp; try with_reducible rfl)
                      try simp only [Act.put, List.setIfInBounds_toArray, List.set_cons_zero, List.set_cons_succ]
                      refine wpAnyH_take (i := 21) (oi := { dst := some 99, op := Go.Op.load 24 (Go.Operand.tmp 11), type := 24, pos := "law.go:82", after := #[{ on := 20, ground := Go.Ground.guard }], guard := some (20, true) }) (v := .agg #[.slice A n c, .slice B m d]) rfl (by kernel_rfl) (by kernel_rfl) (by kernel_rfl) (fun _ _ _ h => h) (Or.inl ⟨by rfl, ?_⟩) (by assumption) ?_
                      · (intro W hSw; (try dsimp only at hSw); go_simp; try with_reducible rfl)
                      try simp only [Act.put, List.setIfInBounds_toArray, List.set_cons_zero, List.set_cons_succ]
                      refine wpAnyH_ready (rs := [22]) (by kernel_rfl) (by simp) ?_
                      refine AllReadyH.cons (o := { dst := some 100, op := Go.Op.call { callee := Go.Callee.value (Go.Operand.func 17), args := #[Go.Operand.tmp 99], argTypes := #[24] }, type := 4, pos := "law.go:82", after := #[{ on := 21, ground := Go.Ground.data }, { on := 20, ground := Go.Ground.chain }, { on := 20, ground := Go.Ground.guard }], guard := some (20, true) }) rfl (fun K hK => ?_) ?_
                      · go_simp
                        (go_at_call 17; refine (HVQ.out _ hY18_).mono ?_; rintro e v22 ⟨rfl, hq22⟩; have hY22_ := below_call hY18_ hq22; clear hq22)
                        refine hK.out _ _ ?_ (fun hHeld9 => ?_)
                        · try dsimp only
                          exact hKK.out _ hY22_
                        clear hK K
                        try simp only [Act.put, List.setIfInBounds_toArray, List.set_cons_zero, List.set_cons_succ]
                        refine wpAnyH_take (i := 23) (oi := { dst := some 101, op := Go.Op.pick (Go.Operand.tmp 98) (Go.Operand.tmp 100) (Go.Operand.const (Go.Value.bool false)), type := 4, pos := "law.go:82", after := #[{ on := 20, ground := Go.Ground.data }, { on := 22, ground := Go.Ground.data }], guard := none }) (v := .bool true) rfl (by kernel_rfl) (by kernel_rfl) (by kernel_rfl) (fun _ _ _ h => h) (Or.inl ⟨by rfl, ?_⟩) (by assumption) ?_
                        · (intro W hSw; (try dsimp only at hSw); go_simp; try with_reducible rfl)
                        try simp only [Act.put, List.setIfInBounds_toArray, List.set_cons_zero, List.set_cons_succ]
                        refine wpAnyH_take (i := 24) (oi := { dst := some 10, op := Go.Op.assign (Go.Operand.tmp 101), type := 4, pos := "law.go:82", after := #[{ on := 23, ground := Go.Ground.data }, { on := 22, ground := Go.Ground.chain }, { on := 0, ground := Go.Ground.phase }, { on := 1, ground := Go.Ground.phase }, { on := 2, ground := Go.Ground.phase }, { on := 3, ground := Go.Ground.phase }, { on := 4, ground := Go.Ground.phase }, { on := 5, ground := Go.Ground.phase }, { on := 6, ground := Go.Ground.phase }, { on := 7, ground := Go.Ground.phase }, { on := 8, ground := Go.Ground.phase }, { on := 9, ground := Go.Ground.phase }, { on := 10, ground := Go.Ground.phase }, { on := 11, ground := Go.Ground.phase }, { on := 12, ground := Go.Ground.phase }, { on := 13, ground := Go.Ground.phase }, { on := 14, ground := Go.Ground.phase }, { on := 15, ground := Go.Ground.phase }, { on := 16, ground := Go.Ground.phase }, { on := 17, ground := Go.Ground.phase }, { on := 18, ground := Go.Ground.phase }, { on := 19, ground := Go.Ground.phase }, { on := 20, ground := Go.Ground.phase }, { on := 21, ground := Go.Ground.phase }, { on := 22, ground := Go.Ground.phase }, { on := 23, ground := Go.Ground.phase }], guard := none }) (v := .bool true) rfl (by kernel_rfl) (by kernel_rfl) (by kernel_rfl) (fun _ _ _ h => h) (Or.inl ⟨by rfl, ?_⟩) (by assumption) ?_
                        · (intro W hSw; (try dsimp only at hSw); go_simp; try with_reducible rfl)
                        try simp only [Act.put, List.setIfInBounds_toArray, List.set_cons_zero, List.set_cons_succ]
                        refine wpAnyH_done (by kernel_rfl) ?_ _
                        go_wp2_with fail
                        go_ret
                        exact ⟨rfl, below_call hb0d hY22_⟩
                      exact AllReadyH.nil
                    exact AllReadyH.nil
                  exact AllReadyH.nil
                exact AllReadyH.nil
              exact AllReadyH.nil
            exact AllReadyH.nil
          exact AllReadyH.nil
        exact AllReadyH.nil
      exact AllReadyH.nil
    · have z1 : (0 : Int) < (n : Int) := by omega
      have hn0 : 0 < n := by omega
      clear h0
      obtain ⟨ga, rfl, hga0, hga1⟩ := OwJ.block hO5 hn0
      have hgab : ga ≠ gb := fun e => hA (by rw [e]; rfl)
      have HR := Lib.hid (fun W => round_any which (n : Int) W (by omega) (by omega))
      have hi0 : 0 ≤ which % (n : Int) := Int.emod_nonneg _ (by omega)
      have hi1 : which % (n : Int) < (n : Int) := Int.emod_lt_of_pos _ (by omega)
      have hk0 : 0 ≤ how % 4 := Int.emod_nonneg _ (by decide)
      have hk1 : how % 4 < 4 := Int.emod_lt_of_pos _ (by decide)
      have HR4 := Lib.hid (fun W => round_any how 4 W (by omega) (by omega))
      generalize which % (n : Int) = i at *
      obtain ⟨i, rfl⟩ := Int.eq_ofNat_of_zero_le hi0
      have hin : i < n := by omega
      clear hi0 hi1
      generalize how % 4 = k4 at *
      have HRB : Hid (∀ (v m : Int) (W : World), 0 < m → m ≤ 1000 → Calls Tryd.prog 16 #[.int .i64 v, .int .i64 m] W fun e w2 => ∃ r : Nat, e = .returned (.int .i64 (r : Int)) ∧ (r : Int) < m ∧ w2 = W) := Lib.hid fun v m W h1 h2 => (round_any v m W h1 (by omega)).mono fun e w2 ⟨a1, a2⟩ => ⟨(v % m).toNat, by rw [a1, Int.toNat_of_nonneg (Int.emod_nonneg _ (by omega))], by rw [Int.toNat_of_nonneg (Int.emod_nonneg _ (by omega))]; exact Int.emod_lt_of_pos _ h1, a2⟩
      go_wp2_with fail
      go_at_call 16
      refine (HR4.out _).mono ?_
      rintro e wn ⟨rfl, hwn⟩
      obtain rfl := hwn.symm
      clear hwn HR4 kcb
      go_upto_block 0 with fail
      go_cut [13] (fun v13 wx => KF yd gb wx)
      case first =>
        have hdr : Below w5.heap.size w5 w5.drew := below_drewN (Below.refl _ _) 1
        have kbd : w5.drew.heap[gb]? = _ := heap_call hdr kb
        have hP5 := hO5.call RJ.stay hdr
        have hP6 := hO6.call RJ.stay hdr
        have hYd := below_call hY hdr
        have hgad : ga < w5.drew.heap.size := hga1
        obtain ⟨b9, o9, e9, hb9, hc9⟩ := RdJ.opened hP5.rd hn0
        injection e9 with e9
        injection e9 with e9 e10
        subst e9 e10
        obtain ⟨q0, q1, q2, q3⟩ := hc9 i hin
        rw [Nat.zero_add] at q0 q1 q2 q3
        have kfa : ∀ i, w5.drew.frozen? ⟨ga, i, none⟩ = false := by
          rcases (OwJ.vals hP5).2 with ⟨e1, e2⟩ | ⟨g5, cap, cur, hv, hbb, hh, _⟩
          · injection e1 with e1; cases e1
          · injection hv with e1; injection e1 with e1; injection e1 with e1 e2; subst e1; exact Blk.frozen hh
        have hiL : i < L.length := by have := hO5.len; omega
        have HWA := Lib.hid (HLW.out (L.getD i jb0) (by rw [List.getD_eq_getElem?_getD, List.getElem?_eq_getElem hiL, Option.getD_some]; exact List.getElem_mem hiL))
        clear hc9 hb9 hO5 hO6 hY kb hdr
        have hkk : k4 = 0 ∨ k4 = 1 ∨ k4 = 2 ∨ k4 = 3 := by omega
        clear hk0 hk1
        rcases hkk with rfl | rfl | rfl | rfl
        · go_upto_region 8 with fail
          have hn1 : ((n : Int) == 0) = false := by simp; omega
          have hn2 : ¬ (n : Int) = 0 := by omega
          have hn3 : ¬ n = 0 := by omega
          have kcb := Blk.cell kbd
          refine wp_region_held_drew (S := fun W => W.cell? ⟨gb, 0, none⟩ = some (.slice (some ⟨ga, 0, none⟩) n c5)) (by kernel_rfl) ?_ (fun hHeld0 => ?_)
          · exact Blk.cell kbd 0
          clear hHeld0
          generalize w5.drew = y5 at *
          have hHeld0 : y5.cell? ⟨gb, 0, none⟩ = some (.slice (some ⟨ga, 0, none⟩) n c5) := Blk.cell kbd 0
          refine wpAnyH_take (i := 0) (oi := { dst := some 44, op := Go.Op.fieldAddr 24 (Go.Operand.tmp 12) 0, type := 0, pos := "law.go:73", after := #[], guard := none }) (v := .pointer (some ⟨gb, 0, none⟩)) rfl (by kernel_rfl) (by kernel_rfl) (by kernel_rfl) (fun _ _ _ h => h) (Or.inl ⟨by rfl, ?_⟩) (by assumption) ?_
          · (intro W hSw; (try dsimp only at hSw); go_simp; try with_reducible rfl)
          try simp only [Act.put, List.setIfInBounds_toArray, List.set_cons_zero, List.set_cons_succ]
          refine wpAnyH_take (i := 1) (oi := { dst := some 45, op := Go.Op.load 22 (Go.Operand.tmp 44), type := 22, pos := "law.go:73", after := #[{ on := 0, ground := Go.Ground.data }], guard := none }) (v := .slice (some ⟨ga, 0, none⟩) n c5) rfl (by kernel_rfl) (by kernel_rfl) (by kernel_rfl) (fun _ _ _ h => h) (Or.inl ⟨by rfl, ?_⟩) (by assumption) ?_
          · (intro W hSw; (try dsimp only at hSw); go_simp; try with_reducible rfl)
          try simp only [Act.put, List.setIfInBounds_toArray, List.set_cons_zero, List.set_cons_succ]
          refine wpAnyH_take (i := 2) (oi := { dst := some 46, op := Go.Op.move (Go.Operand.tmp 3), type := 3, pos := "law.go:73", after := #[], guard := none }) (v := .int .i64 which) rfl (by kernel_rfl) (by kernel_rfl) (by kernel_rfl) (fun _ _ _ h => h) (Or.inl ⟨by rfl, ?_⟩) (by assumption) ?_
          · (intro W hSw; (try dsimp only at hSw); go_simp; try with_reducible rfl)
          try simp only [Act.put, List.setIfInBounds_toArray, List.set_cons_zero, List.set_cons_succ]
          refine wpAnyH_take (i := 3) (oi := { dst := some 47, op := Go.Op.move (Go.Operand.tmp 13), type := 3, pos := "law.go:73", after := #[], guard := none }) (v := .int .i64 (n : Int)) rfl (by kernel_rfl) (by kernel_rfl) (by kernel_rfl) (fun _ _ _ h => h) (Or.inl ⟨by rfl, ?_⟩) (by assumption) ?_
          · (intro W hSw; (try dsimp only at hSw); go_simp; try with_reducible rfl)
          try simp only [Act.put, List.setIfInBounds_toArray, List.set_cons_zero, List.set_cons_succ]
          refine wpAnyH_take (i := 5) (oi := { dst := some 49, op := Go.Op.move (Go.Operand.tmp 3), type := 3, pos := "law.go:73", after := #[], guard := none }) (v := .int .i64 which) rfl (by kernel_rfl) (by kernel_rfl) (by kernel_rfl) (fun _ _ _ h => h) (Or.inl ⟨by rfl, ?_⟩) (by assumption) ?_
          · (intro W hSw; (try dsimp only at hSw); go_simp; try with_reducible rfl)
          try simp only [Act.put, List.setIfInBounds_toArray, List.set_cons_zero, List.set_cons_succ]
          refine wpAnyH_take (i := 6) (oi := { dst := some 50, op := Go.Op.move (Go.Operand.tmp 13), type := 3, pos := "law.go:73", after := #[], guard := none }) (v := .int .i64 (n : Int)) rfl (by kernel_rfl) (by kernel_rfl) (by kernel_rfl) (fun _ _ _ h => h) (Or.inl ⟨by rfl, ?_⟩) (by assumption) ?_
          · (intro W hSw; (try dsimp only at hSw); go_simp; try with_reducible rfl)
          try simp only [Act.put, List.setIfInBounds_toArray, List.set_cons_zero, List.set_cons_succ]
          refine wpAnyH_take (i := 7) (oi := { dst := some 51, op := Go.Op.binOp Go.BinOp.quo 3 (Go.Operand.tmp 49) (Go.Operand.tmp 50) 3, type := 3, pos := "law.go:73", after := #[{ on := 5, ground := Go.Ground.data }, { on := 6, ground := Go.Ground.data }], guard := none }) (v := ?_) rfl (by kernel_rfl) (by kernel_rfl) (by kernel_rfl) (fun _ _ _ h => h) (Or.inl ⟨by rfl, ?_⟩) (by assumption) ?_
          rotate_left
          · (intro W hSw; (try dsimp only at hSw); go_simp; try with_reducible rfl)
          try simp only [Act.put, List.setIfInBounds_toArray, List.set_cons_zero, List.set_cons_succ]
          refine wpAnyH_ready (rs := [4]) (by kernel_rfl) (by simp) ?_
          refine AllReadyH.cons (o := { dst := some 48, op := Go.Op.call { callee := Go.Callee.value (Go.Operand.func 16), args := #[Go.Operand.tmp 46, Go.Operand.tmp 47], argTypes := #[3, 3] }, type := 3, pos := "law.go:73", after := #[{ on := 2, ground := Go.Ground.data }, { on := 3, ground := Go.Ground.data }], guard := none }) rfl (fun K hK => ?_) ?_
          · go_simp
            (go_at_call 16; refine (HR.out _).mono ?_; rintro e wn ⟨rfl, hwn⟩; obtain rfl := hwn.symm; clear hwn)
            refine hK.out _ _ ?_ (fun hHeld1 => ?_)
            · try dsimp only
              exact Blk.cell kbd 0
            clear hK K
            try simp only [Act.put, List.setIfInBounds_toArray, List.set_cons_zero, List.set_cons_succ]
            refine wpAnyH_ready (rs := [8]) (by kernel_rfl) (by simp) ?_
            refine AllReadyH.cons (o := { dst := some 52, op := Go.Op.call { callee := Go.Callee.value (Go.Operand.func 16), args := #[Go.Operand.tmp 51, Go.Operand.const (Go.Value.int Go.IntKind.i64 4)], argTypes := #[3, 3] }, type := 3, pos := "law.go:73", after := #[{ on := 7, ground := Go.Ground.data }, { on := 4, ground := Go.Ground.chain }], guard := none }) rfl (fun K hK => ?_) ?_
            · go_simp
              (go_at_call 16; refine (HRB.out _ 4 _ (by omega) (by omega)).mono ?_; rintro e wn ⟨r, rfl, hr4, hwn⟩; obtain rfl := hwn.symm; clear hwn)
              refine hK.out _ _ ?_ (fun hHeld2 => ?_)
              · try dsimp only
                exact Blk.cell kbd 0
              clear hK K
              try simp only [Act.put, List.setIfInBounds_toArray, List.set_cons_zero, List.set_cons_succ]
              refine wpAnyH_take (i := 9) (oi := { dst := some 53, op := Go.Op.indexAddr 22 (Go.Operand.tmp 45) (Go.Operand.tmp 48), type := 0, pos := "law.go:73", after := #[{ on := 1, ground := Go.Ground.data }, { on := 4, ground := Go.Ground.data }, { on := 0, ground := Go.Ground.phase }, { on := 1, ground := Go.Ground.phase }, { on := 2, ground := Go.Ground.phase }, { on := 3, ground := Go.Ground.phase }, { on := 4, ground := Go.Ground.phase }, { on := 5, ground := Go.Ground.phase }, { on := 6, ground := Go.Ground.phase }, { on := 7, ground := Go.Ground.phase }, { on := 8, ground := Go.Ground.phase }], guard := none }) (v := .pointer (some ⟨ga, i * 4, none⟩)) rfl (by kernel_rfl) (by kernel_rfl) (by kernel_rfl) (fun _ _ _ h => h) (Or.inl ⟨by rfl, ?_⟩) (by assumption) ?_
              · (intro W hSw; (try dsimp only at hSw); go_simp; try with_reducible rfl)
              try simp only [Act.put, List.setIfInBounds_toArray, List.set_cons_zero, List.set_cons_succ]
              refine wpAnyH_take (i := 10) (oi := { dst := some 54, op := Go.Op.fieldAddr 28 (Go.Operand.tmp 53) 0, type := 0, pos := "law.go:73", after := #[{ on := 9, ground := Go.Ground.data }, { on := 0, ground := Go.Ground.phase }, { on := 1, ground := Go.Ground.phase }, { on := 2, ground := Go.Ground.phase }, { on := 3, ground := Go.Ground.phase }, { on := 4, ground := Go.Ground.phase }, { on := 5, ground := Go.Ground.phase }, { on := 6, ground := Go.Ground.phase }, { on := 7, ground := Go.Ground.phase }, { on := 8, ground := Go.Ground.phase }], guard := none }) (v := .pointer (some ⟨ga, i * 4, none⟩)) rfl (by kernel_rfl) (by kernel_rfl) (by kernel_rfl) (fun _ _ _ h => h) (Or.inl ⟨by rfl, ?_⟩) (by assumption) ?_
              · (intro W hSw; (try dsimp only at hSw); go_simp; try with_reducible rfl)
              try simp only [Act.put, List.setIfInBounds_toArray, List.set_cons_zero, List.set_cons_succ]
              refine wpAnyH_ready (rs := [11]) (by kernel_rfl) (by simp) ?_
              refine AllReadyH.cons (o := { dst := none, op := Go.Op.store 3 (Go.Operand.tmp 54) (Go.Operand.tmp 52), type := 0, pos := "law.go:73", after := #[{ on := 10, ground := Go.Ground.data }, { on := 8, ground := Go.Ground.data }, { on := 8, ground := Go.Ground.chain }, { on := 0, ground := Go.Ground.phase }, { on := 1, ground := Go.Ground.phase }, { on := 2, ground := Go.Ground.phase }, { on := 3, ground := Go.Ground.phase }, { on := 4, ground := Go.Ground.phase }, { on := 5, ground := Go.Ground.phase }, { on := 6, ground := Go.Ground.phase }, { on := 7, ground := Go.Ground.phase }, { on := 8, ground := Go.Ground.phase }], guard := none }) rfl (fun K hK => ?_) ?_
              · go_simp
                refine hK.out _ _ ?_ (fun hHeld3 => ?_)
                · try dsimp only
                  exact Blk.cell ((heap_set_far _ _ _ _ _ hgab.symm).trans kbd) 0
                clear hK K
                try simp only [Act.put, List.setIfInBounds_toArray, List.set_cons_zero, List.set_cons_succ]
                refine wpAnyH_done (by kernel_rfl) ?_ _
                have hrw := Lib.hid (show Lit.wf (.int .i64 (r : Int)) = true from WalkArith.wf_i64 (by omega))
                have hO7 := OwJ.put0 hP5 hiL (r : Int)
                have hO8 := OwJ.setN hP6 (g := ga) (fun e => hNe ga rfl e) (i * 4) (.int .i64 (r : Int))
                go_wp2_with fail
                go_meet
                exact ⟨_, M, _, n, c5, B5, m, d5, hYd.setCell hga0 _, (heap_set_far _ _ _ _ _ hgab.symm).trans kbd, hO7.rd, hO8.rd, by omega, by omega, fun a ha => by
                  rcases List.mem_or_eq_of_mem_set ha with h | h
                  · exact HLW.out a h
                  · rw [h]; exact ⟨hrw.out, HWA.out.2.1, HWA.out.2.2.1, HWA.out.2.2.2⟩⟩
              exact AllReadyH.nil
            exact AllReadyH.nil
          exact AllReadyH.nil
        · go_upto_region 10 with fail
          have hn1 : ((n : Int) == 0) = false := by simp; omega
          have hn2 : ¬ (n : Int) = 0 := by omega
          have hn3 : ¬ n = 0 := by omega
          have kcb := Blk.cell kbd
          refine wp_region_held_drew (S := fun W => W.cell? ⟨gb, 0, none⟩ = some (.slice (some ⟨ga, 0, none⟩) n c5)) (by kernel_rfl) ?_ (fun hHeld0 => ?_)
          · exact Blk.cell kbd 0
          clear hHeld0
          generalize w5.drew = y5 at *
          have hHeld0 : y5.cell? ⟨gb, 0, none⟩ = some (.slice (some ⟨ga, 0, none⟩) n c5) := Blk.cell kbd 0
          refine wpAnyH_take (i := 0) (oi := { dst := some 57, op := Go.Op.fieldAddr 24 (Go.Operand.tmp 12) 0, type := 0, pos := "law.go:75", after := #[], guard := none }) (v := .pointer (some ⟨gb, 0, none⟩)) rfl (by kernel_rfl) (by kernel_rfl) (by kernel_rfl) (fun _ _ _ h => h) (Or.inl ⟨by rfl, ?_⟩) (by assumption) ?_
          · (intro W hSw; (try dsimp only at hSw); go_simp; try with_reducible rfl)
          try simp only [Act.put, List.setIfInBounds_toArray, List.set_cons_zero, List.set_cons_succ]
          refine wpAnyH_take (i := 1) (oi := { dst := some 58, op := Go.Op.load 22 (Go.Operand.tmp 57), type := 22, pos := "law.go:75", after := #[{ on := 0, ground := Go.Ground.data }], guard := none }) (v := .slice (some ⟨ga, 0, none⟩) n c5) rfl (by kernel_rfl) (by kernel_rfl) (by kernel_rfl) (fun _ _ _ h => h) (Or.inl ⟨by rfl, ?_⟩) (by assumption) ?_
          · (intro W hSw; (try dsimp only at hSw); go_simp; try with_reducible rfl)
          try simp only [Act.put, List.setIfInBounds_toArray, List.set_cons_zero, List.set_cons_succ]
          refine wpAnyH_take (i := 2) (oi := { dst := some 59, op := Go.Op.move (Go.Operand.tmp 3), type := 3, pos := "law.go:75", after := #[], guard := none }) (v := .int .i64 which) rfl (by kernel_rfl) (by kernel_rfl) (by kernel_rfl) (fun _ _ _ h => h) (Or.inl ⟨by rfl, ?_⟩) (by assumption) ?_
          · (intro W hSw; (try dsimp only at hSw); go_simp; try with_reducible rfl)
          try simp only [Act.put, List.setIfInBounds_toArray, List.set_cons_zero, List.set_cons_succ]
          refine wpAnyH_take (i := 3) (oi := { dst := some 60, op := Go.Op.move (Go.Operand.tmp 13), type := 3, pos := "law.go:75", after := #[], guard := none }) (v := .int .i64 (n : Int)) rfl (by kernel_rfl) (by kernel_rfl) (by kernel_rfl) (fun _ _ _ h => h) (Or.inl ⟨by rfl, ?_⟩) (by assumption) ?_
          · (intro W hSw; (try dsimp only at hSw); go_simp; try with_reducible rfl)
          try simp only [Act.put, List.setIfInBounds_toArray, List.set_cons_zero, List.set_cons_succ]
          refine wpAnyH_ready (rs := [4]) (by kernel_rfl) (by simp) ?_
          refine AllReadyH.cons (o := { dst := some 61, op := Go.Op.call { callee := Go.Callee.value (Go.Operand.func 16), args := #[Go.Operand.tmp 59, Go.Operand.tmp 60], argTypes := #[3, 3] }, type := 3, pos := "law.go:75", after := #[{ on := 2, ground := Go.Ground.data }, { on := 3, ground := Go.Ground.data }], guard := none }) rfl (fun K hK => ?_) ?_
          · go_simp
            (go_at_call 16; refine (HR.out _).mono ?_; rintro e wn ⟨rfl, hwn⟩; obtain rfl := hwn.symm; clear hwn)
            refine hK.out _ _ ?_ (fun hHeld1 => ?_)
            · try dsimp only
              exact Blk.cell kbd 0
            clear hK K
            try simp only [Act.put, List.setIfInBounds_toArray, List.set_cons_zero, List.set_cons_succ]
            refine wpAnyH_take (i := 5) (oi := { dst := some 62, op := Go.Op.indexAddr 22 (Go.Operand.tmp 58) (Go.Operand.tmp 61), type := 0, pos := "law.go:75", after := #[{ on := 1, ground := Go.Ground.data }, { on := 4, ground := Go.Ground.data }, { on := 0, ground := Go.Ground.phase }, { on := 1, ground := Go.Ground.phase }, { on := 2, ground := Go.Ground.phase }, { on := 3, ground := Go.Ground.phase }, { on := 4, ground := Go.Ground.phase }], guard := none }) (v := .pointer (some ⟨ga, i * 4, none⟩)) rfl (by kernel_rfl) (by kernel_rfl) (by kernel_rfl) (fun _ _ _ h => h) (Or.inl ⟨by rfl, ?_⟩) (by assumption) ?_
            · (intro W hSw; (try dsimp only at hSw); go_simp; try with_reducible rfl)
            try simp only [Act.put, List.setIfInBounds_toArray, List.set_cons_zero, List.set_cons_succ]
            refine wpAnyH_take (i := 6) (oi := { dst := some 63, op := Go.Op.fieldAddr 28 (Go.Operand.tmp 62) 1, type := 0, pos := "law.go:75", after := #[{ on := 5, ground := Go.Ground.data }, { on := 0, ground := Go.Ground.phase }, { on := 1, ground := Go.Ground.phase }, { on := 2, ground := Go.Ground.phase }, { on := 3, ground := Go.Ground.phase }, { on := 4, ground := Go.Ground.phase }], guard := none }) (v := .pointer (some ⟨ga, i * 4 + 1, none⟩)) rfl (by kernel_rfl) (by kernel_rfl) (by kernel_rfl) (fun _ _ _ h => h) (Or.inl ⟨by rfl, ?_⟩) (by assumption) ?_
            · (intro W hSw; (try dsimp only at hSw); go_simp; try with_reducible rfl)
            try simp only [Act.put, List.setIfInBounds_toArray, List.set_cons_zero, List.set_cons_succ]
            refine wpAnyH_ready (rs := [7]) (by kernel_rfl) (by simp) ?_
            refine AllReadyH.cons (o := { dst := none, op := Go.Op.store 9 (Go.Operand.tmp 63) (Go.Operand.const (Go.Value.string { data := #[98, 111, 98] })), type := 0, pos := "law.go:75", after := #[{ on := 6, ground := Go.Ground.data }, { on := 4, ground := Go.Ground.chain }, { on := 0, ground := Go.Ground.phase }, { on := 1, ground := Go.Ground.phase }, { on := 2, ground := Go.Ground.phase }, { on := 3, ground := Go.Ground.phase }, { on := 4, ground := Go.Ground.phase }], guard := none }) rfl (fun K hK => ?_) ?_
            · go_simp
              refine hK.out _ _ ?_ (fun hHeld2 => ?_)
              · try dsimp only
                exact Blk.cell ((heap_set_far _ _ _ _ _ hgab.symm).trans kbd) 0
              clear hK K
              try simp only [Act.put, List.setIfInBounds_toArray, List.set_cons_zero, List.set_cons_succ]
              refine wpAnyH_done (by kernel_rfl) ?_ _
              have hO7 := OwJ.put1 hP5 hiL ⟨#[98, 111, 98]⟩
              have hO8 := OwJ.setN hP6 (g := ga) (fun e => hNe ga rfl e) (i * 4 + 1) (.string ⟨#[98, 111, 98]⟩)
              go_wp2_with fail
              go_meet
              exact ⟨_, M, _, n, c5, B5, m, d5, hYd.setCell hga0 _, (heap_set_far _ _ _ _ _ hgab.symm).trans kbd, hO7.rd, hO8.rd, by omega, by omega, fun a ha => by
                rcases List.mem_or_eq_of_mem_set ha with h | h
                · exact HLW.out a h
                · rw [h]; exact ⟨HWA.out.1, (by show 3 ≤ maxLen; unfold maxLen; omega), HWA.out.2.2.1, HWA.out.2.2.2⟩⟩
            exact AllReadyH.nil
          exact AllReadyH.nil
        · generalize L.getD i jb0 = a0 at *
          go_upto_region 12 with fail
          have hn1 : ((n : Int) == 0) = false := by simp; omega
          have hn2 : ¬ (n : Int) = 0 := by omega
          have hn3 : ¬ n = 0 := by omega
          have kcb := Blk.cell kbd
          refine wp_region_held_drew (S := fun _ => True) (by kernel_rfl) ?_ (fun hHeld0 => ?_)
          · exact trivial
          generalize w5.drew = y5 at *
          refine wpAnyH_take (i := 0) (oi := { dst := some 66, op := Go.Op.fieldAddr 24 (Go.Operand.tmp 12) 0, type := 0, pos := "law.go:77", after := #[], guard := none }) (v := .pointer (some ⟨gb, 0, none⟩)) rfl (by kernel_rfl) (by kernel_rfl) (by kernel_rfl) (fun _ _ _ h => h) (Or.inl ⟨by rfl, ?_⟩) (by assumption) ?_
          · (intro W hSw; (try dsimp only at hSw); go_simp; try with_reducible rfl)
          try simp only [Act.put, List.setIfInBounds_toArray, List.set_cons_zero, List.set_cons_succ]
          refine wpAnyH_take (i := 2) (oi := { dst := some 68, op := Go.Op.fieldAddr 24 (Go.Operand.tmp 12) 0, type := 0, pos := "law.go:77", after := #[], guard := none }) (v := .pointer (some ⟨gb, 0, none⟩)) rfl (by kernel_rfl) (by kernel_rfl) (by kernel_rfl) (fun _ _ _ h => h) (Or.inl ⟨by rfl, ?_⟩) (by assumption) ?_
          · (intro W hSw; (try dsimp only at hSw); go_simp; try with_reducible rfl)
          try simp only [Act.put, List.setIfInBounds_toArray, List.set_cons_zero, List.set_cons_succ]
          refine wpAnyH_take (i := 4) (oi := { dst := some 70, op := Go.Op.move (Go.Operand.tmp 3), type := 3, pos := "law.go:77", after := #[], guard := none }) (v := .int .i64 which) rfl (by kernel_rfl) (by kernel_rfl) (by kernel_rfl) (fun _ _ _ h => h) (Or.inl ⟨by rfl, ?_⟩) (by assumption) ?_
          · (intro W hSw; (try dsimp only at hSw); go_simp; try with_reducible rfl)
          try simp only [Act.put, List.setIfInBounds_toArray, List.set_cons_zero, List.set_cons_succ]
          refine wpAnyH_take (i := 5) (oi := { dst := some 71, op := Go.Op.move (Go.Operand.tmp 13), type := 3, pos := "law.go:77", after := #[], guard := none }) (v := .int .i64 (n : Int)) rfl (by kernel_rfl) (by kernel_rfl) (by kernel_rfl) (fun _ _ _ h => h) (Or.inl ⟨by rfl, ?_⟩) (by assumption) ?_
          · (intro W hSw; (try dsimp only at hSw); go_simp; try with_reducible rfl)
          try simp only [Act.put, List.setIfInBounds_toArray, List.set_cons_zero, List.set_cons_succ]
          refine wpAnyH_ready (rs := [1, 3, 6]) (by kernel_rfl) (by simp) ?_
          refine AllReadyH.cons (o := { dst := some 67, op := Go.Op.load 22 (Go.Operand.tmp 66), type := 22, pos := "law.go:77", after := #[{ on := 0, ground := Go.Ground.data }], guard := none }) rfl (fun K hK => ?_) ?_
          · go_simp
            refine hK.out _ _ ?_ (fun hHeld1 => ?_)
            · try dsimp only
              try exact trivial
            clear hK K
            try simp only [Act.put, List.setIfInBounds_toArray, List.set_cons_zero, List.set_cons_succ]
            refine wpAnyH_ready (rs := [3, 6]) (by kernel_rfl) (by simp) ?_
            refine AllReadyH.cons (o := { dst := some 69, op := Go.Op.load 22 (Go.Operand.tmp 68), type := 22, pos := "law.go:77", after := #[{ on := 2, ground := Go.Ground.data }], guard := none }) rfl (fun K hK => ?_) ?_
            · go_simp
              refine hK.out _ _ ?_ (fun hHeld2 => ?_)
              · try dsimp only
                try exact trivial
              clear hK K
              try simp only [Act.put, List.setIfInBounds_toArray, List.set_cons_zero, List.set_cons_succ]
              refine wpAnyH_ready (rs := [6]) (by kernel_rfl) (by simp) ?_
              refine AllReadyH.cons (o := { dst := some 72, op := Go.Op.call { callee := Go.Callee.value (Go.Operand.func 16), args := #[Go.Operand.tmp 70, Go.Operand.tmp 71], argTypes := #[3, 3] }, type := 3, pos := "law.go:77", after := #[{ on := 4, ground := Go.Ground.data }, { on := 5, ground := Go.Ground.data }], guard := none }) rfl (fun K hK => ?_) ?_
              · go_simp
                (go_at_call 16; refine (HR.out _).mono ?_; rintro e wn ⟨rfl, hwn⟩; obtain rfl := hwn.symm; clear hwn)
                refine hK.out _ _ ?_ (fun hHeld3 => ?_)
                · try dsimp only
                  try exact trivial
                clear hK K
                try simp only [Act.put, List.setIfInBounds_toArray, List.set_cons_zero, List.set_cons_succ]
                refine wpAnyH_take (i := 7) (oi := { dst := some 73, op := Go.Op.indexAddr 22 (Go.Operand.tmp 69) (Go.Operand.tmp 72), type := 0, pos := "law.go:77", after := #[{ on := 3, ground := Go.Ground.data }, { on := 6, ground := Go.Ground.data }], guard := none }) (v := .pointer (some ⟨ga, i * 4, none⟩)) rfl (by kernel_rfl) (by kernel_rfl) (by kernel_rfl) (fun _ _ _ h => h) (Or.inl ⟨by rfl, ?_⟩) (by assumption) ?_
                · (intro W hSw; (try dsimp only at hSw); go_simp; try with_reducible rfl)
                try simp only [Act.put, List.setIfInBounds_toArray, List.set_cons_zero, List.set_cons_succ]
                refine wpAnyH_ready (rs := [8]) (by kernel_rfl) (by simp) ?_
                refine AllReadyH.cons (o := { dst := some 74, op := Go.Op.load 28 (Go.Operand.tmp 73), type := 28, pos := "law.go:77", after := #[{ on := 7, ground := Go.Ground.data }], guard := none }) rfl (fun K hK => ?_) ?_
                · go_simp
                  refine hK.out _ _ ?_ (fun hHeld4 => ?_)
                  · try dsimp only
                    try exact trivial
                  clear hK K
                  try simp only [Act.put, List.setIfInBounds_toArray, List.set_cons_zero, List.set_cons_succ]
                  refine wpAnyH_ready (rs := [9]) (by kernel_rfl) (by simp) ?_
                  refine AllReadyH.cons (o := { dst := some 75, op := Go.Op.buildSlice 22 1 #[(0, Go.Operand.tmp 74)], type := 22, pos := "law.go:77", after := #[{ on := 8, ground := Go.Ground.data }], guard := none }) rfl (fun K hK => ?_) ?_
                  · go_simp
                    refine hK.out _ _ ?_ (fun hHeld5 => ?_)
                    · try dsimp only
                      try exact trivial
                    clear hK K
                    try simp only [Act.put, List.setIfInBounds_toArray, List.set_cons_zero, List.set_cons_succ]
                    have hal : Below y5.heap.size y5 (y5.alloc (.cells #[.int .i64 a0.st, .string a0.us, .int .i64 a0.sp, .string a0.nm] 28)) := (Below.refl _ _).alloc (Nat.le_refl _) _
                    have hYa := below_call hYd hal
                    have hQ5 := Lib.hid (hP5.call RJ.stay hal)
                    have hQ6 := Lib.hid (hP6.call RJ.stay hal)
                    have kba := heap_call hal kbd
                    have kca := Blk.cell kba
                    refine wpAnyH_ready (rs := [10]) (by kernel_rfl) (by simp) ?_
                    refine AllReadyH.cons (o := { dst := some 76, op := Go.Op.call { callee := Go.Callee.builtin Go.Builtin.append, args := #[Go.Operand.tmp 67, Go.Operand.tmp 75], argTypes := #[22, 22] }, type := 22, pos := "law.go:77", after := #[{ on := 1, ground := Go.Ground.data }, { on := 9, ground := Go.Ground.data }, { on := 6, ground := Go.Ground.chain }], guard := none }) rfl (fun K hK => ?_) ?_
                    · (refine step_append_r _ rfl (.tmp 67) (.tmp 75) 22 rfl 4 48 yd.heap.size 28 i0 _ RJ.stay (by decide) Tryd.underlying22 hi0 hz0 hz1 hz2 rfl (by omega) (some ⟨ga, 0, none⟩) n c5 L (by simp [Act.eval, Act.put]) hQ5.out (some ⟨y5.heap.size, 0, none⟩) 1 1 (by simp [Act.eval, Act.put]) [a0] _ (Reads.litAt (cs := #[.int .i64 a0.st, .string a0.us, .int .i64 a0.sp, .string a0.nm]) rfl rfl) (RdJ.lit (t := 0) a0) rfl ?_ ?_ ?_ ?_ ?_; (focus (simp [Value.oneCell'])); (focus (unfold maxLen; omega)); (focus omega); (focus (exact hYa.size)); intro A7 c7 w7 ho7 hg7)
                      refine hK.out _ _ ?_ (fun hHeld6 => ?_)
                      · try dsimp only
                        try exact trivial
                      clear hK K
                      try simp only [Act.put, List.setIfInBounds_toArray, List.set_cons_zero, List.set_cons_succ]
                      have hY7 := hYa.trans hg7.b
                      have kb7 : w7.heap[gb]? = _ := (hg7.g.block gb (Blk.lt kba) (fun e => hgab.symm (by injection e))).trans kba
                      have kc7 := Blk.cell kb7
                      have kf7 := Blk.frozen kb7
                      have hB7 := OwJ.block_ne ho7 kb7 (by decide)
                      have hR6 := OwJ.grownB hQ6.out hg7 hNe
                      refine wpAnyH_take (i := 11) (oi := { dst := some 77, op := Go.Op.fieldAddr 24 (Go.Operand.tmp 12) 0, type := 0, pos := "law.go:77", after := #[{ on := 0, ground := Go.Ground.phase }, { on := 1, ground := Go.Ground.phase }, { on := 2, ground := Go.Ground.phase }, { on := 3, ground := Go.Ground.phase }, { on := 4, ground := Go.Ground.phase }, { on := 5, ground := Go.Ground.phase }, { on := 6, ground := Go.Ground.phase }, { on := 7, ground := Go.Ground.phase }, { on := 8, ground := Go.Ground.phase }, { on := 9, ground := Go.Ground.phase }, { on := 10, ground := Go.Ground.phase }], guard := none }) (v := .pointer (some ⟨gb, 0, none⟩)) rfl (by kernel_rfl) (by kernel_rfl) (by kernel_rfl) (fun _ _ _ h => h) (Or.inl ⟨by rfl, ?_⟩) (by assumption) ?_
                      · (intro W hSw; (try dsimp only at hSw); go_simp; try with_reducible rfl)
                      try simp only [Act.put, List.setIfInBounds_toArray, List.set_cons_zero, List.set_cons_succ]
                      refine wpAnyH_ready (rs := [12]) (by kernel_rfl) (by simp) ?_
                      refine AllReadyH.cons (o := { dst := none, op := Go.Op.store 22 (Go.Operand.tmp 77) (Go.Operand.tmp 76), type := 0, pos := "law.go:77", after := #[{ on := 11, ground := Go.Ground.data }, { on := 10, ground := Go.Ground.data }, { on := 10, ground := Go.Ground.chain }, { on := 0, ground := Go.Ground.phase }, { on := 1, ground := Go.Ground.phase }, { on := 2, ground := Go.Ground.phase }, { on := 3, ground := Go.Ground.phase }, { on := 4, ground := Go.Ground.phase }, { on := 5, ground := Go.Ground.phase }, { on := 6, ground := Go.Ground.phase }, { on := 7, ground := Go.Ground.phase }, { on := 8, ground := Go.Ground.phase }, { on := 9, ground := Go.Ground.phase }, { on := 10, ground := Go.Ground.phase }], guard := none }) rfl (fun K hK => ?_) ?_
                      · go_simp
                        refine hK.out _ _ ?_ (fun hHeld7 => ?_)
                        · try dsimp only
                          try exact trivial
                        clear hK K
                        try simp only [Act.put, List.setIfInBounds_toArray, List.set_cons_zero, List.set_cons_succ]
                        refine wpAnyH_done (by kernel_rfl) ?_ _
                        have hO7 := OwJ.setN ho7 hB7 0 (.slice A7 (n + 1) c7)
                        have hO8 := OwJ.setN hR6 hB 0 (.slice A7 (n + 1) c7)
                        go_wp2_with fail
                        go_meet
                        exact ⟨_, M, A7, n + 1, c7, B5, m, d5, hY7.setCell hgY _, heap_set_near _ _ _ _ _ _ kb7, hO7.rd, hO8.rd, by omega, by omega, fun a ha => by
                          rcases List.mem_append.1 ha with h | h
                          · exact HLW.out a h
                          · simp only [List.mem_singleton] at h; rw [h]; exact HWA.out⟩
                      exact AllReadyH.nil
                    exact AllReadyH.nil
                  exact AllReadyH.nil
                exact AllReadyH.nil
              exact AllReadyH.nil
            refine AllReadyH.cons (o := { dst := some 72, op := Go.Op.call { callee := Go.Callee.value (Go.Operand.func 16), args := #[Go.Operand.tmp 70, Go.Operand.tmp 71], argTypes := #[3, 3] }, type := 3, pos := "law.go:77", after := #[{ on := 4, ground := Go.Ground.data }, { on := 5, ground := Go.Ground.data }], guard := none }) rfl (fun K hK => ?_) ?_
            · go_simp
              (go_at_call 16; refine (HR.out _).mono ?_; rintro e wn ⟨rfl, hwn⟩; obtain rfl := hwn.symm; clear hwn)
              refine hK.out _ _ ?_ (fun hHeld2 => ?_)
              · try dsimp only
                try exact trivial
              clear hK K
              try simp only [Act.put, List.setIfInBounds_toArray, List.set_cons_zero, List.set_cons_succ]
              refine wpAnyH_ready (rs := [3]) (by kernel_rfl) (by simp) ?_
              refine AllReadyH.cons (o := { dst := some 69, op := Go.Op.load 22 (Go.Operand.tmp 68), type := 22, pos := "law.go:77", after := #[{ on := 2, ground := Go.Ground.data }], guard := none }) rfl (fun K hK => ?_) ?_
              · go_simp
                refine hK.out _ _ ?_ (fun hHeld3 => ?_)
                · try dsimp only
                  try exact trivial
                clear hK K
                try simp only [Act.put, List.setIfInBounds_toArray, List.set_cons_zero, List.set_cons_succ]
                refine wpAnyH_take (i := 7) (oi := { dst := some 73, op := Go.Op.indexAddr 22 (Go.Operand.tmp 69) (Go.Operand.tmp 72), type := 0, pos := "law.go:77", after := #[{ on := 3, ground := Go.Ground.data }, { on := 6, ground := Go.Ground.data }], guard := none }) (v := .pointer (some ⟨ga, i * 4, none⟩)) rfl (by kernel_rfl) (by kernel_rfl) (by kernel_rfl) (fun _ _ _ h => h) (Or.inl ⟨by rfl, ?_⟩) (by assumption) ?_
                · (intro W hSw; (try dsimp only at hSw); go_simp; try with_reducible rfl)
                try simp only [Act.put, List.setIfInBounds_toArray, List.set_cons_zero, List.set_cons_succ]
                refine wpAnyH_ready (rs := [8]) (by kernel_rfl) (by simp) ?_
                refine AllReadyH.cons (o := { dst := some 74, op := Go.Op.load 28 (Go.Operand.tmp 73), type := 28, pos := "law.go:77", after := #[{ on := 7, ground := Go.Ground.data }], guard := none }) rfl (fun K hK => ?_) ?_
                · go_simp
                  refine hK.out _ _ ?_ (fun hHeld4 => ?_)
                  · try dsimp only
                    try exact trivial
                  clear hK K
                  try simp only [Act.put, List.setIfInBounds_toArray, List.set_cons_zero, List.set_cons_succ]
                  refine wpAnyH_ready (rs := [9]) (by kernel_rfl) (by simp) ?_
                  refine AllReadyH.cons (o := { dst := some 75, op := Go.Op.buildSlice 22 1 #[(0, Go.Operand.tmp 74)], type := 22, pos := "law.go:77", after := #[{ on := 8, ground := Go.Ground.data }], guard := none }) rfl (fun K hK => ?_) ?_
                  · go_simp
                    refine hK.out _ _ ?_ (fun hHeld5 => ?_)
                    · try dsimp only
                      try exact trivial
                    clear hK K
                    try simp only [Act.put, List.setIfInBounds_toArray, List.set_cons_zero, List.set_cons_succ]
                    have hal : Below y5.heap.size y5 (y5.alloc (.cells #[.int .i64 a0.st, .string a0.us, .int .i64 a0.sp, .string a0.nm] 28)) := (Below.refl _ _).alloc (Nat.le_refl _) _
                    have hYa := below_call hYd hal
                    have hQ5 := Lib.hid (hP5.call RJ.stay hal)
                    have hQ6 := Lib.hid (hP6.call RJ.stay hal)
                    have kba := heap_call hal kbd
                    have kca := Blk.cell kba
                    refine wpAnyH_ready (rs := [10]) (by kernel_rfl) (by simp) ?_
                    refine AllReadyH.cons (o := { dst := some 76, op := Go.Op.call { callee := Go.Callee.builtin Go.Builtin.append, args := #[Go.Operand.tmp 67, Go.Operand.tmp 75], argTypes := #[22, 22] }, type := 22, pos := "law.go:77", after := #[{ on := 1, ground := Go.Ground.data }, { on := 9, ground := Go.Ground.data }, { on := 6, ground := Go.Ground.chain }], guard := none }) rfl (fun K hK => ?_) ?_
                    · (refine step_append_r _ rfl (.tmp 67) (.tmp 75) 22 rfl 4 48 yd.heap.size 28 i0 _ RJ.stay (by decide) Tryd.underlying22 hi0 hz0 hz1 hz2 rfl (by omega) (some ⟨ga, 0, none⟩) n c5 L (by simp [Act.eval, Act.put]) hQ5.out (some ⟨y5.heap.size, 0, none⟩) 1 1 (by simp [Act.eval, Act.put]) [a0] _ (Reads.litAt (cs := #[.int .i64 a0.st, .string a0.us, .int .i64 a0.sp, .string a0.nm]) rfl rfl) (RdJ.lit (t := 0) a0) rfl ?_ ?_ ?_ ?_ ?_; (focus (simp [Value.oneCell'])); (focus (unfold maxLen; omega)); (focus omega); (focus (exact hYa.size)); intro A7 c7 w7 ho7 hg7)
                      refine hK.out _ _ ?_ (fun hHeld6 => ?_)
                      · try dsimp only
                        try exact trivial
                      clear hK K
                      try simp only [Act.put, List.setIfInBounds_toArray, List.set_cons_zero, List.set_cons_succ]
                      have hY7 := hYa.trans hg7.b
                      have kb7 : w7.heap[gb]? = _ := (hg7.g.block gb (Blk.lt kba) (fun e => hgab.symm (by injection e))).trans kba
                      have kc7 := Blk.cell kb7
                      have kf7 := Blk.frozen kb7
                      have hB7 := OwJ.block_ne ho7 kb7 (by decide)
                      have hR6 := OwJ.grownB hQ6.out hg7 hNe
                      refine wpAnyH_take (i := 11) (oi := { dst := some 77, op := Go.Op.fieldAddr 24 (Go.Operand.tmp 12) 0, type := 0, pos := "law.go:77", after := #[{ on := 0, ground := Go.Ground.phase }, { on := 1, ground := Go.Ground.phase }, { on := 2, ground := Go.Ground.phase }, { on := 3, ground := Go.Ground.phase }, { on := 4, ground := Go.Ground.phase }, { on := 5, ground := Go.Ground.phase }, { on := 6, ground := Go.Ground.phase }, { on := 7, ground := Go.Ground.phase }, { on := 8, ground := Go.Ground.phase }, { on := 9, ground := Go.Ground.phase }, { on := 10, ground := Go.Ground.phase }], guard := none }) (v := .pointer (some ⟨gb, 0, none⟩)) rfl (by kernel_rfl) (by kernel_rfl) (by kernel_rfl) (fun _ _ _ h => h) (Or.inl ⟨by rfl, ?_⟩) (by assumption) ?_
                      · (intro W hSw; (try dsimp only at hSw); go_simp; try with_reducible rfl)
                      try simp only [Act.put, List.setIfInBounds_toArray, List.set_cons_zero, List.set_cons_succ]
                      refine wpAnyH_ready (rs := [12]) (by kernel_rfl) (by simp) ?_
                      refine AllReadyH.cons (o := { dst := none, op := Go.Op.store 22 (Go.Operand.tmp 77) (Go.Operand.tmp 76), type := 0, pos := "law.go:77", after := #[{ on := 11, ground := Go.Ground.data }, { on := 10, ground := Go.Ground.data }, { on := 10, ground := Go.Ground.chain }, { on := 0, ground := Go.Ground.phase }, { on := 1, ground := Go.Ground.phase }, { on := 2, ground := Go.Ground.phase }, { on := 3, ground := Go.Ground.phase }, { on := 4, ground := Go.Ground.phase }, { on := 5, ground := Go.Ground.phase }, { on := 6, ground := Go.Ground.phase }, { on := 7, ground := Go.Ground.phase }, { on := 8, ground := Go.Ground.phase }, { on := 9, ground := Go.Ground.phase }, { on := 10, ground := Go.Ground.phase }], guard := none }) rfl (fun K hK => ?_) ?_
                      · go_simp
                        refine hK.out _ _ ?_ (fun hHeld7 => ?_)
                        · try dsimp only
                          try exact trivial
                        clear hK K
                        try simp only [Act.put, List.setIfInBounds_toArray, List.set_cons_zero, List.set_cons_succ]
                        refine wpAnyH_done (by kernel_rfl) ?_ _
                        have hO7 := OwJ.setN ho7 hB7 0 (.slice A7 (n + 1) c7)
                        have hO8 := OwJ.setN hR6 hB 0 (.slice A7 (n + 1) c7)
                        go_wp2_with fail
                        go_meet
                        exact ⟨_, M, A7, n + 1, c7, B5, m, d5, hY7.setCell hgY _, heap_set_near _ _ _ _ _ _ kb7, hO7.rd, hO8.rd, by omega, by omega, fun a ha => by
                          rcases List.mem_append.1 ha with h | h
                          · exact HLW.out a h
                          · simp only [List.mem_singleton] at h; rw [h]; exact HWA.out⟩
                      exact AllReadyH.nil
                    exact AllReadyH.nil
                  exact AllReadyH.nil
                exact AllReadyH.nil
              exact AllReadyH.nil
            exact AllReadyH.nil
          refine AllReadyH.cons (o := { dst := some 69, op := Go.Op.load 22 (Go.Operand.tmp 68), type := 22, pos := "law.go:77", after := #[{ on := 2, ground := Go.Ground.data }], guard := none }) rfl (fun K hK => ?_) ?_
          · go_simp
            refine hK.out _ _ ?_ (fun hHeld1 => ?_)
            · try dsimp only
              try exact trivial
            clear hK K
            try simp only [Act.put, List.setIfInBounds_toArray, List.set_cons_zero, List.set_cons_succ]
            refine wpAnyH_ready (rs := [1, 6]) (by kernel_rfl) (by simp) ?_
            refine AllReadyH.cons (o := { dst := some 67, op := Go.Op.load 22 (Go.Operand.tmp 66), type := 22, pos := "law.go:77", after := #[{ on := 0, ground := Go.Ground.data }], guard := none }) rfl (fun K hK => ?_) ?_
            · go_simp
              refine hK.out _ _ ?_ (fun hHeld2 => ?_)
              · try dsimp only
                try exact trivial
              clear hK K
              try simp only [Act.put, List.setIfInBounds_toArray, List.set_cons_zero, List.set_cons_succ]
              refine wpAnyH_ready (rs := [6]) (by kernel_rfl) (by simp) ?_
              refine AllReadyH.cons (o := { dst := some 72, op := Go.Op.call { callee := Go.Callee.value (Go.Operand.func 16), args := #[Go.Operand.tmp 70, Go.Operand.tmp 71], argTypes := #[3, 3] }, type := 3, pos := "law.go:77", after := #[{ on := 4, ground := Go.Ground.data }, { on := 5, ground := Go.Ground.data }], guard := none }) rfl (fun K hK => ?_) ?_
              · go_simp
                (go_at_call 16; refine (HR.out _).mono ?_; rintro e wn ⟨rfl, hwn⟩; obtain rfl := hwn.symm; clear hwn)
                refine hK.out _ _ ?_ (fun hHeld3 => ?_)
                · try dsimp only
                  try exact trivial
                clear hK K
                try simp only [Act.put, List.setIfInBounds_toArray, List.set_cons_zero, List.set_cons_succ]
                refine wpAnyH_take (i := 7) (oi := { dst := some 73, op := Go.Op.indexAddr 22 (Go.Operand.tmp 69) (Go.Operand.tmp 72), type := 0, pos := "law.go:77", after := #[{ on := 3, ground := Go.Ground.data }, { on := 6, ground := Go.Ground.data }], guard := none }) (v := .pointer (some ⟨ga, i * 4, none⟩)) rfl (by kernel_rfl) (by kernel_rfl) (by kernel_rfl) (fun _ _ _ h => h) (Or.inl ⟨by rfl, ?_⟩) (by assumption) ?_
                · (intro W hSw; (try dsimp only at hSw); go_simp; try with_reducible rfl)
                try simp only [Act.put, List.setIfInBounds_toArray, List.set_cons_zero, List.set_cons_succ]
                refine wpAnyH_ready (rs := [8]) (by kernel_rfl) (by simp) ?_
                refine AllReadyH.cons (o := { dst := some 74, op := Go.Op.load 28 (Go.Operand.tmp 73), type := 28, pos := "law.go:77", after := #[{ on := 7, ground := Go.Ground.data }], guard := none }) rfl (fun K hK => ?_) ?_
                · go_simp
                  refine hK.out _ _ ?_ (fun hHeld4 => ?_)
                  · try dsimp only
                    try exact trivial
                  clear hK K
                  try simp only [Act.put, List.setIfInBounds_toArray, List.set_cons_zero, List.set_cons_succ]
                  refine wpAnyH_ready (rs := [9]) (by kernel_rfl) (by simp) ?_
                  refine AllReadyH.cons (o := { dst := some 75, op := Go.Op.buildSlice 22 1 #[(0, Go.Operand.tmp 74)], type := 22, pos := "law.go:77", after := #[{ on := 8, ground := Go.Ground.data }], guard := none }) rfl (fun K hK => ?_) ?_
                  · go_simp
                    refine hK.out _ _ ?_ (fun hHeld5 => ?_)
                    · try dsimp only
                      try exact trivial
                    clear hK K
                    try simp only [Act.put, List.setIfInBounds_toArray, List.set_cons_zero, List.set_cons_succ]
                    have hal : Below y5.heap.size y5 (y5.alloc (.cells #[.int .i64 a0.st, .string a0.us, .int .i64 a0.sp, .string a0.nm] 28)) := (Below.refl _ _).alloc (Nat.le_refl _) _
                    have hYa := below_call hYd hal
                    have hQ5 := Lib.hid (hP5.call RJ.stay hal)
                    have hQ6 := Lib.hid (hP6.call RJ.stay hal)
                    have kba := heap_call hal kbd
                    have kca := Blk.cell kba
                    refine wpAnyH_ready (rs := [10]) (by kernel_rfl) (by simp) ?_
                    refine AllReadyH.cons (o := { dst := some 76, op := Go.Op.call { callee := Go.Callee.builtin Go.Builtin.append, args := #[Go.Operand.tmp 67, Go.Operand.tmp 75], argTypes := #[22, 22] }, type := 22, pos := "law.go:77", after := #[{ on := 1, ground := Go.Ground.data }, { on := 9, ground := Go.Ground.data }, { on := 6, ground := Go.Ground.chain }], guard := none }) rfl (fun K hK => ?_) ?_
                    · (refine step_append_r _ rfl (.tmp 67) (.tmp 75) 22 rfl 4 48 yd.heap.size 28 i0 _ RJ.stay (by decide) Tryd.underlying22 hi0 hz0 hz1 hz2 rfl (by omega) (some ⟨ga, 0, none⟩) n c5 L (by simp [Act.eval, Act.put]) hQ5.out (some ⟨y5.heap.size, 0, none⟩) 1 1 (by simp [Act.eval, Act.put]) [a0] _ (Reads.litAt (cs := #[.int .i64 a0.st, .string a0.us, .int .i64 a0.sp, .string a0.nm]) rfl rfl) (RdJ.lit (t := 0) a0) rfl ?_ ?_ ?_ ?_ ?_; (focus (simp [Value.oneCell'])); (focus (unfold maxLen; omega)); (focus omega); (focus (exact hYa.size)); intro A7 c7 w7 ho7 hg7)
                      refine hK.out _ _ ?_ (fun hHeld6 => ?_)
                      · try dsimp only
                        try exact trivial
                      clear hK K
                      try simp only [Act.put, List.setIfInBounds_toArray, List.set_cons_zero, List.set_cons_succ]
                      have hY7 := hYa.trans hg7.b
                      have kb7 : w7.heap[gb]? = _ := (hg7.g.block gb (Blk.lt kba) (fun e => hgab.symm (by injection e))).trans kba
                      have kc7 := Blk.cell kb7
                      have kf7 := Blk.frozen kb7
                      have hB7 := OwJ.block_ne ho7 kb7 (by decide)
                      have hR6 := OwJ.grownB hQ6.out hg7 hNe
                      refine wpAnyH_take (i := 11) (oi := { dst := some 77, op := Go.Op.fieldAddr 24 (Go.Operand.tmp 12) 0, type := 0, pos := "law.go:77", after := #[{ on := 0, ground := Go.Ground.phase }, { on := 1, ground := Go.Ground.phase }, { on := 2, ground := Go.Ground.phase }, { on := 3, ground := Go.Ground.phase }, { on := 4, ground := Go.Ground.phase }, { on := 5, ground := Go.Ground.phase }, { on := 6, ground := Go.Ground.phase }, { on := 7, ground := Go.Ground.phase }, { on := 8, ground := Go.Ground.phase }, { on := 9, ground := Go.Ground.phase }, { on := 10, ground := Go.Ground.phase }], guard := none }) (v := .pointer (some ⟨gb, 0, none⟩)) rfl (by kernel_rfl) (by kernel_rfl) (by kernel_rfl) (fun _ _ _ h => h) (Or.inl ⟨by rfl, ?_⟩) (by assumption) ?_
                      · (intro W hSw; (try dsimp only at hSw); go_simp; try with_reducible rfl)
                      try simp only [Act.put, List.setIfInBounds_toArray, List.set_cons_zero, List.set_cons_succ]
                      refine wpAnyH_ready (rs := [12]) (by kernel_rfl) (by simp) ?_
                      refine AllReadyH.cons (o := { dst := none, op := Go.Op.store 22 (Go.Operand.tmp 77) (Go.Operand.tmp 76), type := 0, pos := "law.go:77", after := #[{ on := 11, ground := Go.Ground.data }, { on := 10, ground := Go.Ground.data }, { on := 10, ground := Go.Ground.chain }, { on := 0, ground := Go.Ground.phase }, { on := 1, ground := Go.Ground.phase }, { on := 2, ground := Go.Ground.phase }, { on := 3, ground := Go.Ground.phase }, { on := 4, ground := Go.Ground.phase }, { on := 5, ground := Go.Ground.phase }, { on := 6, ground := Go.Ground.phase }, { on := 7, ground := Go.Ground.phase }, { on := 8, ground := Go.Ground.phase }, { on := 9, ground := Go.Ground.phase }, { on := 10, ground := Go.Ground.phase }], guard := none }) rfl (fun K hK => ?_) ?_
                      · go_simp
                        refine hK.out _ _ ?_ (fun hHeld7 => ?_)
                        · try dsimp only
                          try exact trivial
                        clear hK K
                        try simp only [Act.put, List.setIfInBounds_toArray, List.set_cons_zero, List.set_cons_succ]
                        refine wpAnyH_done (by kernel_rfl) ?_ _
                        have hO7 := OwJ.setN ho7 hB7 0 (.slice A7 (n + 1) c7)
                        have hO8 := OwJ.setN hR6 hB 0 (.slice A7 (n + 1) c7)
                        go_wp2_with fail
                        go_meet
                        exact ⟨_, M, A7, n + 1, c7, B5, m, d5, hY7.setCell hgY _, heap_set_near _ _ _ _ _ _ kb7, hO7.rd, hO8.rd, by omega, by omega, fun a ha => by
                          rcases List.mem_append.1 ha with h | h
                          · exact HLW.out a h
                          · simp only [List.mem_singleton] at h; rw [h]; exact HWA.out⟩
                      exact AllReadyH.nil
                    exact AllReadyH.nil
                  exact AllReadyH.nil
                exact AllReadyH.nil
              exact AllReadyH.nil
            refine AllReadyH.cons (o := { dst := some 72, op := Go.Op.call { callee := Go.Callee.value (Go.Operand.func 16), args := #[Go.Operand.tmp 70, Go.Operand.tmp 71], argTypes := #[3, 3] }, type := 3, pos := "law.go:77", after := #[{ on := 4, ground := Go.Ground.data }, { on := 5, ground := Go.Ground.data }], guard := none }) rfl (fun K hK => ?_) ?_
            · go_simp
              (go_at_call 16; refine (HR.out _).mono ?_; rintro e wn ⟨rfl, hwn⟩; obtain rfl := hwn.symm; clear hwn)
              refine hK.out _ _ ?_ (fun hHeld2 => ?_)
              · try dsimp only
                try exact trivial
              clear hK K
              try simp only [Act.put, List.setIfInBounds_toArray, List.set_cons_zero, List.set_cons_succ]
              refine wpAnyH_take (i := 7) (oi := { dst := some 73, op := Go.Op.indexAddr 22 (Go.Operand.tmp 69) (Go.Operand.tmp 72), type := 0, pos := "law.go:77", after := #[{ on := 3, ground := Go.Ground.data }, { on := 6, ground := Go.Ground.data }], guard := none }) (v := .pointer (some ⟨ga, i * 4, none⟩)) rfl (by kernel_rfl) (by kernel_rfl) (by kernel_rfl) (fun _ _ _ h => h) (Or.inl ⟨by rfl, ?_⟩) (by assumption) ?_
              · (intro W hSw; (try dsimp only at hSw); go_simp; try with_reducible rfl)
              try simp only [Act.put, List.setIfInBounds_toArray, List.set_cons_zero, List.set_cons_succ]
              refine wpAnyH_ready (rs := [1, 8]) (by kernel_rfl) (by simp) ?_
              refine AllReadyH.cons (o := { dst := some 67, op := Go.Op.load 22 (Go.Operand.tmp 66), type := 22, pos := "law.go:77", after := #[{ on := 0, ground := Go.Ground.data }], guard := none }) rfl (fun K hK => ?_) ?_
              · go_simp
                refine hK.out _ _ ?_ (fun hHeld3 => ?_)
                · try dsimp only
                  try exact trivial
                clear hK K
                try simp only [Act.put, List.setIfInBounds_toArray, List.set_cons_zero, List.set_cons_succ]
                refine wpAnyH_ready (rs := [8]) (by kernel_rfl) (by simp) ?_
                refine AllReadyH.cons (o := { dst := some 74, op := Go.Op.load 28 (Go.Operand.tmp 73), type := 28, pos := "law.go:77", after := #[{ on := 7, ground := Go.Ground.data }], guard := none }) rfl (fun K hK => ?_) ?_
                · go_simp
                  refine hK.out _ _ ?_ (fun hHeld4 => ?_)
                  · try dsimp only
                    try exact trivial
                  clear hK K
                  try simp only [Act.put, List.setIfInBounds_toArray, List.set_cons_zero, List.set_cons_succ]
                  refine wpAnyH_ready (rs := [9]) (by kernel_rfl) (by simp) ?_
                  refine AllReadyH.cons (o := { dst := some 75, op := Go.Op.buildSlice 22 1 #[(0, Go.Operand.tmp 74)], type := 22, pos := "law.go:77", after := #[{ on := 8, ground := Go.Ground.data }], guard := none }) rfl (fun K hK => ?_) ?_
                  · go_simp
                    refine hK.out _ _ ?_ (fun hHeld5 => ?_)
                    · try dsimp only
                      try exact trivial
                    clear hK K
                    try simp only [Act.put, List.setIfInBounds_toArray, List.set_cons_zero, List.set_cons_succ]
                    have hal : Below y5.heap.size y5 (y5.alloc (.cells #[.int .i64 a0.st, .string a0.us, .int .i64 a0.sp, .string a0.nm] 28)) := (Below.refl _ _).alloc (Nat.le_refl _) _
                    have hYa := below_call hYd hal
                    have hQ5 := Lib.hid (hP5.call RJ.stay hal)
                    have hQ6 := Lib.hid (hP6.call RJ.stay hal)
                    have kba := heap_call hal kbd
                    have kca := Blk.cell kba
                    refine wpAnyH_ready (rs := [10]) (by kernel_rfl) (by simp) ?_
                    refine AllReadyH.cons (o := { dst := some 76, op := Go.Op.call { callee := Go.Callee.builtin Go.Builtin.append, args := #[Go.Operand.tmp 67, Go.Operand.tmp 75], argTypes := #[22, 22] }, type := 22, pos := "law.go:77", after := #[{ on := 1, ground := Go.Ground.data }, { on := 9, ground := Go.Ground.data }, { on := 6, ground := Go.Ground.chain }], guard := none }) rfl (fun K hK => ?_) ?_
                    · (refine step_append_r _ rfl (.tmp 67) (.tmp 75) 22 rfl 4 48 yd.heap.size 28 i0 _ RJ.stay (by decide) Tryd.underlying22 hi0 hz0 hz1 hz2 rfl (by omega) (some ⟨ga, 0, none⟩) n c5 L (by simp [Act.eval, Act.put]) hQ5.out (some ⟨y5.heap.size, 0, none⟩) 1 1 (by simp [Act.eval, Act.put]) [a0] _ (Reads.litAt (cs := #[.int .i64 a0.st, .string a0.us, .int .i64 a0.sp, .string a0.nm]) rfl rfl) (RdJ.lit (t := 0) a0) rfl ?_ ?_ ?_ ?_ ?_; (focus (simp [Value.oneCell'])); (focus (unfold maxLen; omega)); (focus omega); (focus (exact hYa.size)); intro A7 c7 w7 ho7 hg7)
                      refine hK.out _ _ ?_ (fun hHeld6 => ?_)
                      · try dsimp only
                        try exact trivial
                      clear hK K
                      try simp only [Act.put, List.setIfInBounds_toArray, List.set_cons_zero, List.set_cons_succ]
                      have hY7 := hYa.trans hg7.b
                      have kb7 : w7.heap[gb]? = _ := (hg7.g.block gb (Blk.lt kba) (fun e => hgab.symm (by injection e))).trans kba
                      have kc7 := Blk.cell kb7
                      have kf7 := Blk.frozen kb7
                      have hB7 := OwJ.block_ne ho7 kb7 (by decide)
                      have hR6 := OwJ.grownB hQ6.out hg7 hNe
                      refine wpAnyH_take (i := 11) (oi := { dst := some 77, op := Go.Op.fieldAddr 24 (Go.Operand.tmp 12) 0, type := 0, pos := "law.go:77", after := #[{ on := 0, ground := Go.Ground.phase }, { on := 1, ground := Go.Ground.phase }, { on := 2, ground := Go.Ground.phase }, { on := 3, ground := Go.Ground.phase }, { on := 4, ground := Go.Ground.phase }, { on := 5, ground := Go.Ground.phase }, { on := 6, ground := Go.Ground.phase }, { on := 7, ground := Go.Ground.phase }, { on := 8, ground := Go.Ground.phase }, { on := 9, ground := Go.Ground.phase }, { on := 10, ground := Go.Ground.phase }], guard := none }) (v := .pointer (some ⟨gb, 0, none⟩)) rfl (by kernel_rfl) (by kernel_rfl) (by kernel_rfl) (fun _ _ _ h => h) (Or.inl ⟨by rfl, ?_⟩) (by assumption) ?_
                      · (intro W hSw; (try dsimp only at hSw); go_simp; try with_reducible rfl)
                      try simp only [Act.put, List.setIfInBounds_toArray, List.set_cons_zero, List.set_cons_succ]
                      refine wpAnyH_ready (rs := [12]) (by kernel_rfl) (by simp) ?_
                      refine AllReadyH.cons (o := { dst := none, op := Go.Op.store 22 (Go.Operand.tmp 77) (Go.Operand.tmp 76), type := 0, pos := "law.go:77", after := #[{ on := 11, ground := Go.Ground.data }, { on := 10, ground := Go.Ground.data }, { on := 10, ground := Go.Ground.chain }, { on := 0, ground := Go.Ground.phase }, { on := 1, ground := Go.Ground.phase }, { on := 2, ground := Go.Ground.phase }, { on := 3, ground := Go.Ground.phase }, { on := 4, ground := Go.Ground.phase }, { on := 5, ground := Go.Ground.phase }, { on := 6, ground := Go.Ground.phase }, { on := 7, ground := Go.Ground.phase }, { on := 8, ground := Go.Ground.phase }, { on := 9, ground := Go.Ground.phase }, { on := 10, ground := Go.Ground.phase }], guard := none }) rfl (fun K hK => ?_) ?_
                      · go_simp
                        refine hK.out _ _ ?_ (fun hHeld7 => ?_)
                        · try dsimp only
                          try exact trivial
                        clear hK K
                        try simp only [Act.put, List.setIfInBounds_toArray, List.set_cons_zero, List.set_cons_succ]
                        refine wpAnyH_done (by kernel_rfl) ?_ _
                        have hO7 := OwJ.setN ho7 hB7 0 (.slice A7 (n + 1) c7)
                        have hO8 := OwJ.setN hR6 hB 0 (.slice A7 (n + 1) c7)
                        go_wp2_with fail
                        go_meet
                        exact ⟨_, M, A7, n + 1, c7, B5, m, d5, hY7.setCell hgY _, heap_set_near _ _ _ _ _ _ kb7, hO7.rd, hO8.rd, by omega, by omega, fun a ha => by
                          rcases List.mem_append.1 ha with h | h
                          · exact HLW.out a h
                          · simp only [List.mem_singleton] at h; rw [h]; exact HWA.out⟩
                      exact AllReadyH.nil
                    exact AllReadyH.nil
                  exact AllReadyH.nil
                exact AllReadyH.nil
              refine AllReadyH.cons (o := { dst := some 74, op := Go.Op.load 28 (Go.Operand.tmp 73), type := 28, pos := "law.go:77", after := #[{ on := 7, ground := Go.Ground.data }], guard := none }) rfl (fun K hK => ?_) ?_
              · go_simp
                refine hK.out _ _ ?_ (fun hHeld3 => ?_)
                · try dsimp only
                  try exact trivial
                clear hK K
                try simp only [Act.put, List.setIfInBounds_toArray, List.set_cons_zero, List.set_cons_succ]
                refine wpAnyH_ready (rs := [1, 9]) (by kernel_rfl) (by simp) ?_
                refine AllReadyH.cons (o := { dst := some 67, op := Go.Op.load 22 (Go.Operand.tmp 66), type := 22, pos := "law.go:77", after := #[{ on := 0, ground := Go.Ground.data }], guard := none }) rfl (fun K hK => ?_) ?_
                · go_simp
                  refine hK.out _ _ ?_ (fun hHeld4 => ?_)
                  · try dsimp only
                    try exact trivial
                  clear hK K
                  try simp only [Act.put, List.setIfInBounds_toArray, List.set_cons_zero, List.set_cons_succ]
                  refine wpAnyH_ready (rs := [9]) (by kernel_rfl) (by simp) ?_
                  refine AllReadyH.cons (o := { dst := some 75, op := Go.Op.buildSlice 22 1 #[(0, Go.Operand.tmp 74)], type := 22, pos := "law.go:77", after := #[{ on := 8, ground := Go.Ground.data }], guard := none }) rfl (fun K hK => ?_) ?_
                  · go_simp
                    refine hK.out _ _ ?_ (fun hHeld5 => ?_)
                    · try dsimp only
                      try exact trivial
                    clear hK K
                    try simp only [Act.put, List.setIfInBounds_toArray, List.set_cons_zero, List.set_cons_succ]
                    have hal : Below y5.heap.size y5 (y5.alloc (.cells #[.int .i64 a0.st, .string a0.us, .int .i64 a0.sp, .string a0.nm] 28)) := (Below.refl _ _).alloc (Nat.le_refl _) _
                    have hYa := below_call hYd hal
                    have hQ5 := Lib.hid (hP5.call RJ.stay hal)
                    have hQ6 := Lib.hid (hP6.call RJ.stay hal)
                    have kba := heap_call hal kbd
                    have kca := Blk.cell kba
                    refine wpAnyH_ready (rs := [10]) (by kernel_rfl) (by simp) ?_
                    refine AllReadyH.cons (o := { dst := some 76, op := Go.Op.call { callee := Go.Callee.builtin Go.Builtin.append, args := #[Go.Operand.tmp 67, Go.Operand.tmp 75], argTypes := #[22, 22] }, type := 22, pos := "law.go:77", after := #[{ on := 1, ground := Go.Ground.data }, { on := 9, ground := Go.Ground.data }, { on := 6, ground := Go.Ground.chain }], guard := none }) rfl (fun K hK => ?_) ?_
                    · (refine step_append_r _ rfl (.tmp 67) (.tmp 75) 22 rfl 4 48 yd.heap.size 28 i0 _ RJ.stay (by decide) Tryd.underlying22 hi0 hz0 hz1 hz2 rfl (by omega) (some ⟨ga, 0, none⟩) n c5 L (by simp [Act.eval, Act.put]) hQ5.out (some ⟨y5.heap.size, 0, none⟩) 1 1 (by simp [Act.eval, Act.put]) [a0] _ (Reads.litAt (cs := #[.int .i64 a0.st, .string a0.us, .int .i64 a0.sp, .string a0.nm]) rfl rfl) (RdJ.lit (t := 0) a0) rfl ?_ ?_ ?_ ?_ ?_; (focus (simp [Value.oneCell'])); (focus (unfold maxLen; omega)); (focus omega); (focus (exact hYa.size)); intro A7 c7 w7 ho7 hg7)
                      refine hK.out _ _ ?_ (fun hHeld6 => ?_)
                      · try dsimp only
                        try exact trivial
                      clear hK K
                      try simp only [Act.put, List.setIfInBounds_toArray, List.set_cons_zero, List.set_cons_succ]
                      have hY7 := hYa.trans hg7.b
                      have kb7 : w7.heap[gb]? = _ := (hg7.g.block gb (Blk.lt kba) (fun e => hgab.symm (by injection e))).trans kba
                      have kc7 := Blk.cell kb7
                      have kf7 := Blk.frozen kb7
                      have hB7 := OwJ.block_ne ho7 kb7 (by decide)
                      have hR6 := OwJ.grownB hQ6.out hg7 hNe
                      refine wpAnyH_take (i := 11) (oi := { dst := some 77, op := Go.Op.fieldAddr 24 (Go.Operand.tmp 12) 0, type := 0, pos := "law.go:77", after := #[{ on := 0, ground := Go.Ground.phase }, { on := 1, ground := Go.Ground.phase }, { on := 2, ground := Go.Ground.phase }, { on := 3, ground := Go.Ground.phase }, { on := 4, ground := Go.Ground.phase }, { on := 5, ground := Go.Ground.phase }, { on := 6, ground := Go.Ground.phase }, { on := 7, ground := Go.Ground.phase }, { on := 8, ground := Go.Ground.phase }, { on := 9, ground := Go.Ground.phase }, { on := 10, ground := Go.Ground.phase }], guard := none }) (v := .pointer (some ⟨gb, 0, none⟩)) rfl (by kernel_rfl) (by kernel_rfl) (by kernel_rfl) (fun _ _ _ h => h) (Or.inl ⟨by rfl, ?_⟩) (by assumption) ?_
                      · (intro W hSw; (try dsimp only at hSw); go_simp; try with_reducible rfl)
                      try simp only [Act.put, List.setIfInBounds_toArray, List.set_cons_zero, List.set_cons_succ]
                      refine wpAnyH_ready (rs := [12]) (by kernel_rfl) (by simp) ?_
                      refine AllReadyH.cons (o := { dst := none, op := Go.Op.store 22 (Go.Operand.tmp 77) (Go.Operand.tmp 76), type := 0, pos := "law.go:77", after := #[{ on := 11, ground := Go.Ground.data }, { on := 10, ground := Go.Ground.data }, { on := 10, ground := Go.Ground.chain }, { on := 0, ground := Go.Ground.phase }, { on := 1, ground := Go.Ground.phase }, { on := 2, ground := Go.Ground.phase }, { on := 3, ground := Go.Ground.phase }, { on := 4, ground := Go.Ground.phase }, { on := 5, ground := Go.Ground.phase }, { on := 6, ground := Go.Ground.phase }, { on := 7, ground := Go.Ground.phase }, { on := 8, ground := Go.Ground.phase }, { on := 9, ground := Go.Ground.phase }, { on := 10, ground := Go.Ground.phase }], guard := none }) rfl (fun K hK => ?_) ?_
                      · go_simp
                        refine hK.out _ _ ?_ (fun hHeld7 => ?_)
                        · try dsimp only
                          try exact trivial
                        clear hK K
                        try simp only [Act.put, List.setIfInBounds_toArray, List.set_cons_zero, List.set_cons_succ]
                        refine wpAnyH_done (by kernel_rfl) ?_ _
                        have hO7 := OwJ.setN ho7 hB7 0 (.slice A7 (n + 1) c7)
                        have hO8 := OwJ.setN hR6 hB 0 (.slice A7 (n + 1) c7)
                        go_wp2_with fail
                        go_meet
                        exact ⟨_, M, A7, n + 1, c7, B5, m, d5, hY7.setCell hgY _, heap_set_near _ _ _ _ _ _ kb7, hO7.rd, hO8.rd, by omega, by omega, fun a ha => by
                          rcases List.mem_append.1 ha with h | h
                          · exact HLW.out a h
                          · simp only [List.mem_singleton] at h; rw [h]; exact HWA.out⟩
                      exact AllReadyH.nil
                    exact AllReadyH.nil
                  exact AllReadyH.nil
                refine AllReadyH.cons (o := { dst := some 75, op := Go.Op.buildSlice 22 1 #[(0, Go.Operand.tmp 74)], type := 22, pos := "law.go:77", after := #[{ on := 8, ground := Go.Ground.data }], guard := none }) rfl (fun K hK => ?_) ?_
                · go_simp
                  refine hK.out _ _ ?_ (fun hHeld4 => ?_)
                  · try dsimp only
                    try exact trivial
                  clear hK K
                  try simp only [Act.put, List.setIfInBounds_toArray, List.set_cons_zero, List.set_cons_succ]
                  have hal : Below y5.heap.size y5 (y5.alloc (.cells #[.int .i64 a0.st, .string a0.us, .int .i64 a0.sp, .string a0.nm] 28)) := (Below.refl _ _).alloc (Nat.le_refl _) _
                  have hYa := below_call hYd hal
                  have hQ5 := Lib.hid (hP5.call RJ.stay hal)
                  have hQ6 := Lib.hid (hP6.call RJ.stay hal)
                  have kba := heap_call hal kbd
                  have kca := Blk.cell kba
                  refine wpAnyH_ready (rs := [1]) (by kernel_rfl) (by simp) ?_
                  refine AllReadyH.cons (o := { dst := some 67, op := Go.Op.load 22 (Go.Operand.tmp 66), type := 22, pos := "law.go:77", after := #[{ on := 0, ground := Go.Ground.data }], guard := none }) rfl (fun K hK => ?_) ?_
                  · go_simp
                    refine hK.out _ _ ?_ (fun hHeld5 => ?_)
                    · try dsimp only
                      try exact trivial
                    clear hK K
                    try simp only [Act.put, List.setIfInBounds_toArray, List.set_cons_zero, List.set_cons_succ]
                    refine wpAnyH_ready (rs := [10]) (by kernel_rfl) (by simp) ?_
                    refine AllReadyH.cons (o := { dst := some 76, op := Go.Op.call { callee := Go.Callee.builtin Go.Builtin.append, args := #[Go.Operand.tmp 67, Go.Operand.tmp 75], argTypes := #[22, 22] }, type := 22, pos := "law.go:77", after := #[{ on := 1, ground := Go.Ground.data }, { on := 9, ground := Go.Ground.data }, { on := 6, ground := Go.Ground.chain }], guard := none }) rfl (fun K hK => ?_) ?_
                    · (refine step_append_r _ rfl (.tmp 67) (.tmp 75) 22 rfl 4 48 yd.heap.size 28 i0 _ RJ.stay (by decide) Tryd.underlying22 hi0 hz0 hz1 hz2 rfl (by omega) (some ⟨ga, 0, none⟩) n c5 L (by simp [Act.eval, Act.put]) hQ5.out (some ⟨y5.heap.size, 0, none⟩) 1 1 (by simp [Act.eval, Act.put]) [a0] _ (Reads.litAt (cs := #[.int .i64 a0.st, .string a0.us, .int .i64 a0.sp, .string a0.nm]) rfl rfl) (RdJ.lit (t := 0) a0) rfl ?_ ?_ ?_ ?_ ?_; (focus (simp [Value.oneCell'])); (focus (unfold maxLen; omega)); (focus omega); (focus (exact hYa.size)); intro A7 c7 w7 ho7 hg7)
                      refine hK.out _ _ ?_ (fun hHeld6 => ?_)
                      · try dsimp only
                        try exact trivial
                      clear hK K
                      try simp only [Act.put, List.setIfInBounds_toArray, List.set_cons_zero, List.set_cons_succ]
                      have hY7 := hYa.trans hg7.b
                      have kb7 : w7.heap[gb]? = _ := (hg7.g.block gb (Blk.lt kba) (fun e => hgab.symm (by injection e))).trans kba
                      have kc7 := Blk.cell kb7
                      have kf7 := Blk.frozen kb7
                      have hB7 := OwJ.block_ne ho7 kb7 (by decide)
                      have hR6 := OwJ.grownB hQ6.out hg7 hNe
                      refine wpAnyH_take (i := 11) (oi := { dst := some 77, op := Go.Op.fieldAddr 24 (Go.Operand.tmp 12) 0, type := 0, pos := "law.go:77", after := #[{ on := 0, ground := Go.Ground.phase }, { on := 1, ground := Go.Ground.phase }, { on := 2, ground := Go.Ground.phase }, { on := 3, ground := Go.Ground.phase }, { on := 4, ground := Go.Ground.phase }, { on := 5, ground := Go.Ground.phase }, { on := 6, ground := Go.Ground.phase }, { on := 7, ground := Go.Ground.phase }, { on := 8, ground := Go.Ground.phase }, { on := 9, ground := Go.Ground.phase }, { on := 10, ground := Go.Ground.phase }], guard := none }) (v := .pointer (some ⟨gb, 0, none⟩)) rfl (by kernel_rfl) (by kernel_rfl) (by kernel_rfl) (fun _ _ _ h => h) (Or.inl ⟨by rfl, ?_⟩) (by assumption) ?_
                      · (intro W hSw; (try dsimp only at hSw); go_simp; try with_reducible rfl)
                      try simp only [Act.put, List.setIfInBounds_toArray, List.set_cons_zero, List.set_cons_succ]
                      refine wpAnyH_ready (rs := [12]) (by kernel_rfl) (by simp) ?_
                      refine AllReadyH.cons (o := { dst := none, op := Go.Op.store 22 (Go.Operand.tmp 77) (Go.Operand.tmp 76), type := 0, pos := "law.go:77", after := #[{ on := 11, ground := Go.Ground.data }, { on := 10, ground := Go.Ground.data }, { on := 10, ground := Go.Ground.chain }, { on := 0, ground := Go.Ground.phase }, { on := 1, ground := Go.Ground.phase }, { on := 2, ground := Go.Ground.phase }, { on := 3, ground := Go.Ground.phase }, { on := 4, ground := Go.Ground.phase }, { on := 5, ground := Go.Ground.phase }, { on := 6, ground := Go.Ground.phase }, { on := 7, ground := Go.Ground.phase }, { on := 8, ground := Go.Ground.phase }, { on := 9, ground := Go.Ground.phase }, { on := 10, ground := Go.Ground.phase }], guard := none }) rfl (fun K hK => ?_) ?_
                      · go_simp
                        refine hK.out _ _ ?_ (fun hHeld7 => ?_)
                        · try dsimp only
                          try exact trivial
                        clear hK K
                        try simp only [Act.put, List.setIfInBounds_toArray, List.set_cons_zero, List.set_cons_succ]
                        refine wpAnyH_done (by kernel_rfl) ?_ _
                        have hO7 := OwJ.setN ho7 hB7 0 (.slice A7 (n + 1) c7)
                        have hO8 := OwJ.setN hR6 hB 0 (.slice A7 (n + 1) c7)
                        go_wp2_with fail
                        go_meet
                        exact ⟨_, M, A7, n + 1, c7, B5, m, d5, hY7.setCell hgY _, heap_set_near _ _ _ _ _ _ kb7, hO7.rd, hO8.rd, by omega, by omega, fun a ha => by
                          rcases List.mem_append.1 ha with h | h
                          · exact HLW.out a h
                          · simp only [List.mem_singleton] at h; rw [h]; exact HWA.out⟩
                      exact AllReadyH.nil
                    exact AllReadyH.nil
                  exact AllReadyH.nil
                exact AllReadyH.nil
              exact AllReadyH.nil
            exact AllReadyH.nil
          refine AllReadyH.cons (o := { dst := some 72, op := Go.Op.call { callee := Go.Callee.value (Go.Operand.func 16), args := #[Go.Operand.tmp 70, Go.Operand.tmp 71], argTypes := #[3, 3] }, type := 3, pos := "law.go:77", after := #[{ on := 4, ground := Go.Ground.data }, { on := 5, ground := Go.Ground.data }], guard := none }) rfl (fun K hK => ?_) ?_
          · go_simp
            (go_at_call 16; refine (HR.out _).mono ?_; rintro e wn ⟨rfl, hwn⟩; obtain rfl := hwn.symm; clear hwn)
            refine hK.out _ _ ?_ (fun hHeld1 => ?_)
            · try dsimp only
              try exact trivial
            clear hK K
            try simp only [Act.put, List.setIfInBounds_toArray, List.set_cons_zero, List.set_cons_succ]
            refine wpAnyH_ready (rs := [1, 3]) (by kernel_rfl) (by simp) ?_
            refine AllReadyH.cons (o := { dst := some 67, op := Go.Op.load 22 (Go.Operand.tmp 66), type := 22, pos := "law.go:77", after := #[{ on := 0, ground := Go.Ground.data }], guard := none }) rfl (fun K hK => ?_) ?_
            · go_simp
              refine hK.out _ _ ?_ (fun hHeld2 => ?_)
              · try dsimp only
                try exact trivial
              clear hK K
              try simp only [Act.put, List.setIfInBounds_toArray, List.set_cons_zero, List.set_cons_succ]
              refine wpAnyH_ready (rs := [3]) (by kernel_rfl) (by simp) ?_
              refine AllReadyH.cons (o := { dst := some 69, op := Go.Op.load 22 (Go.Operand.tmp 68), type := 22, pos := "law.go:77", after := #[{ on := 2, ground := Go.Ground.data }], guard := none }) rfl (fun K hK => ?_) ?_
              · go_simp
                refine hK.out _ _ ?_ (fun hHeld3 => ?_)
                · try dsimp only
                  try exact trivial
                clear hK K
                try simp only [Act.put, List.setIfInBounds_toArray, List.set_cons_zero, List.set_cons_succ]
                refine wpAnyH_take (i := 7) (oi := { dst := some 73, op := Go.Op.indexAddr 22 (Go.Operand.tmp 69) (Go.Operand.tmp 72), type := 0, pos := "law.go:77", after := #[{ on := 3, ground := Go.Ground.data }, { on := 6, ground := Go.Ground.data }], guard := none }) (v := .pointer (some ⟨ga, i * 4, none⟩)) rfl (by kernel_rfl) (by kernel_rfl) (by kernel_rfl) (fun _ _ _ h => h) (Or.inl ⟨by rfl, ?_⟩) (by assumption) ?_
                · (intro W hSw; (try dsimp only at hSw); go_simp; try with_reducible rfl)
                try simp only [Act.put, List.setIfInBounds_toArray, List.set_cons_zero, List.set_cons_succ]
                refine wpAnyH_ready (rs := [8]) (by kernel_rfl) (by simp) ?_
                refine AllReadyH.cons (o := { dst := some 74, op := Go.Op.load 28 (Go.Operand.tmp 73), type := 28, pos := "law.go:77", after := #[{ on := 7, ground := Go.Ground.data }], guard := none }) rfl (fun K hK => ?_) ?_
                · go_simp
                  refine hK.out _ _ ?_ (fun hHeld4 => ?_)
                  · try dsimp only
                    try exact trivial
                  clear hK K
                  try simp only [Act.put, List.setIfInBounds_toArray, List.set_cons_zero, List.set_cons_succ]
                  refine wpAnyH_ready (rs := [9]) (by kernel_rfl) (by simp) ?_
                  refine AllReadyH.cons (o := { dst := some 75, op := Go.Op.buildSlice 22 1 #[(0, Go.Operand.tmp 74)], type := 22, pos := "law.go:77", after := #[{ on := 8, ground := Go.Ground.data }], guard := none }) rfl (fun K hK => ?_) ?_
                  · go_simp
                    refine hK.out _ _ ?_ (fun hHeld5 => ?_)
                    · try dsimp only
                      try exact trivial
                    clear hK K
                    try simp only [Act.put, List.setIfInBounds_toArray, List.set_cons_zero, List.set_cons_succ]
                    have hal : Below y5.heap.size y5 (y5.alloc (.cells #[.int .i64 a0.st, .string a0.us, .int .i64 a0.sp, .string a0.nm] 28)) := (Below.refl _ _).alloc (Nat.le_refl _) _
                    have hYa := below_call hYd hal
                    have hQ5 := Lib.hid (hP5.call RJ.stay hal)
                    have hQ6 := Lib.hid (hP6.call RJ.stay hal)
                    have kba := heap_call hal kbd
                    have kca := Blk.cell kba
                    refine wpAnyH_ready (rs := [10]) (by kernel_rfl) (by simp) ?_
                    refine AllReadyH.cons (o := { dst := some 76, op := Go.Op.call { callee := Go.Callee.builtin Go.Builtin.append, args := #[Go.Operand.tmp 67, Go.Operand.tmp 75], argTypes := #[22, 22] }, type := 22, pos := "law.go:77", after := #[{ on := 1, ground := Go.Ground.data }, { on := 9, ground := Go.Ground.data }, { on := 6, ground := Go.Ground.chain }], guard := none }) rfl (fun K hK => ?_) ?_
                    · (refine step_append_r _ rfl (.tmp 67) (.tmp 75) 22 rfl 4 48 yd.heap.size 28 i0 _ RJ.stay (by decide) Tryd.underlying22 hi0 hz0 hz1 hz2 rfl (by omega) (some ⟨ga, 0, none⟩) n c5 L (by simp [Act.eval, Act.put]) hQ5.out (some ⟨y5.heap.size, 0, none⟩) 1 1 (by simp [Act.eval, Act.put]) [a0] _ (Reads.litAt (cs := #[.int .i64 a0.st, .string a0.us, .int .i64 a0.sp, .string a0.nm]) rfl rfl) (RdJ.lit (t := 0) a0) rfl ?_ ?_ ?_ ?_ ?_; (focus (simp [Value.oneCell'])); (focus (unfold maxLen; omega)); (focus omega); (focus (exact hYa.size)); intro A7 c7 w7 ho7 hg7)
                      refine hK.out _ _ ?_ (fun hHeld6 => ?_)
                      · try dsimp only
                        try exact trivial
                      clear hK K
                      try simp only [Act.put, List.setIfInBounds_toArray, List.set_cons_zero, List.set_cons_succ]
                      have hY7 := hYa.trans hg7.b
                      have kb7 : w7.heap[gb]? = _ := (hg7.g.block gb (Blk.lt kba) (fun e => hgab.symm (by injection e))).trans kba
                      have kc7 := Blk.cell kb7
                      have kf7 := Blk.frozen kb7
                      have hB7 := OwJ.block_ne ho7 kb7 (by decide)
                      have hR6 := OwJ.grownB hQ6.out hg7 hNe
                      refine wpAnyH_take (i := 11) (oi := { dst := some 77, op := Go.Op.fieldAddr 24 (Go.Operand.tmp 12) 0, type := 0, pos := "law.go:77", after := #[{ on := 0, ground := Go.Ground.phase }, { on := 1, ground := Go.Ground.phase }, { on := 2, ground := Go.Ground.phase }, { on := 3, ground := Go.Ground.phase }, { on := 4, ground := Go.Ground.phase }, { on := 5, ground := Go.Ground.phase }, { on := 6, ground := Go.Ground.phase }, { on := 7, ground := Go.Ground.phase }, { on := 8, ground := Go.Ground.phase }, { on := 9, ground := Go.Ground.phase }, { on := 10, ground := Go.Ground.phase }], guard := none }) (v := .pointer (some ⟨gb, 0, none⟩)) rfl (by kernel_rfl) (by kernel_rfl) (by kernel_rfl) (fun _ _ _ h => h) (Or.inl ⟨by rfl, ?_⟩) (by assumption) ?_
                      · (intro W hSw; (try dsimp only at hSw); go_simp; try with_reducible rfl)
                      try simp only [Act.put, List.setIfInBounds_toArray, List.set_cons_zero, List.set_cons_succ]
                      refine wpAnyH_ready (rs := [12]) (by kernel_rfl) (by simp) ?_
                      refine AllReadyH.cons (o := { dst := none, op := Go.Op.store 22 (Go.Operand.tmp 77) (Go.Operand.tmp 76), type := 0, pos := "law.go:77", after := #[{ on := 11, ground := Go.Ground.data }, { on := 10, ground := Go.Ground.data }, { on := 10, ground := Go.Ground.chain }, { on := 0, ground := Go.Ground.phase }, { on := 1, ground := Go.Ground.phase }, { on := 2, ground := Go.Ground.phase }, { on := 3, ground := Go.Ground.phase }, { on := 4, ground := Go.Ground.phase }, { on := 5, ground := Go.Ground.phase }, { on := 6, ground := Go.Ground.phase }, { on := 7, ground := Go.Ground.phase }, { on := 8, ground := Go.Ground.phase }, { on := 9, ground := Go.Ground.phase }, { on := 10, ground := Go.Ground.phase }], guard := none }) rfl (fun K hK => ?_) ?_
                      · go_simp
                        refine hK.out _ _ ?_ (fun hHeld7 => ?_)
                        · try dsimp only
                          try exact trivial
                        clear hK K
                        try simp only [Act.put, List.setIfInBounds_toArray, List.set_cons_zero, List.set_cons_succ]
                        refine wpAnyH_done (by kernel_rfl) ?_ _
                        have hO7 := OwJ.setN ho7 hB7 0 (.slice A7 (n + 1) c7)
                        have hO8 := OwJ.setN hR6 hB 0 (.slice A7 (n + 1) c7)
                        go_wp2_with fail
                        go_meet
                        exact ⟨_, M, A7, n + 1, c7, B5, m, d5, hY7.setCell hgY _, heap_set_near _ _ _ _ _ _ kb7, hO7.rd, hO8.rd, by omega, by omega, fun a ha => by
                          rcases List.mem_append.1 ha with h | h
                          · exact HLW.out a h
                          · simp only [List.mem_singleton] at h; rw [h]; exact HWA.out⟩
                      exact AllReadyH.nil
                    exact AllReadyH.nil
                  exact AllReadyH.nil
                exact AllReadyH.nil
              exact AllReadyH.nil
            refine AllReadyH.cons (o := { dst := some 69, op := Go.Op.load 22 (Go.Operand.tmp 68), type := 22, pos := "law.go:77", after := #[{ on := 2, ground := Go.Ground.data }], guard := none }) rfl (fun K hK => ?_) ?_
            · go_simp
              refine hK.out _ _ ?_ (fun hHeld2 => ?_)
              · try dsimp only
                try exact trivial
              clear hK K
              try simp only [Act.put, List.setIfInBounds_toArray, List.set_cons_zero, List.set_cons_succ]
              refine wpAnyH_take (i := 7) (oi := { dst := some 73, op := Go.Op.indexAddr 22 (Go.Operand.tmp 69) (Go.Operand.tmp 72), type := 0, pos := "law.go:77", after := #[{ on := 3, ground := Go.Ground.data }, { on := 6, ground := Go.Ground.data }], guard := none }) (v := .pointer (some ⟨ga, i * 4, none⟩)) rfl (by kernel_rfl) (by kernel_rfl) (by kernel_rfl) (fun _ _ _ h => h) (Or.inl ⟨by rfl, ?_⟩) (by assumption) ?_
              · (intro W hSw; (try dsimp only at hSw); go_simp; try with_reducible rfl)
              try simp only [Act.put, List.setIfInBounds_toArray, List.set_cons_zero, List.set_cons_succ]
              refine wpAnyH_ready (rs := [1, 8]) (by kernel_rfl) (by simp) ?_
              refine AllReadyH.cons (o := { dst := some 67, op := Go.Op.load 22 (Go.Operand.tmp 66), type := 22, pos := "law.go:77", after := #[{ on := 0, ground := Go.Ground.data }], guard := none }) rfl (fun K hK => ?_) ?_
              · go_simp
                refine hK.out _ _ ?_ (fun hHeld3 => ?_)
                · try dsimp only
                  try exact trivial
                clear hK K
                try simp only [Act.put, List.setIfInBounds_toArray, List.set_cons_zero, List.set_cons_succ]
                refine wpAnyH_ready (rs := [8]) (by kernel_rfl) (by simp) ?_
                refine AllReadyH.cons (o := { dst := some 74, op := Go.Op.load 28 (Go.Operand.tmp 73), type := 28, pos := "law.go:77", after := #[{ on := 7, ground := Go.Ground.data }], guard := none }) rfl (fun K hK => ?_) ?_
                · go_simp
                  refine hK.out _ _ ?_ (fun hHeld4 => ?_)
                  · try dsimp only
                    try exact trivial
                  clear hK K
                  try simp only [Act.put, List.setIfInBounds_toArray, List.set_cons_zero, List.set_cons_succ]
                  refine wpAnyH_ready (rs := [9]) (by kernel_rfl) (by simp) ?_
                  refine AllReadyH.cons (o := { dst := some 75, op := Go.Op.buildSlice 22 1 #[(0, Go.Operand.tmp 74)], type := 22, pos := "law.go:77", after := #[{ on := 8, ground := Go.Ground.data }], guard := none }) rfl (fun K hK => ?_) ?_
                  · go_simp
                    refine hK.out _ _ ?_ (fun hHeld5 => ?_)
                    · try dsimp only
                      try exact trivial
                    clear hK K
                    try simp only [Act.put, List.setIfInBounds_toArray, List.set_cons_zero, List.set_cons_succ]
                    have hal : Below y5.heap.size y5 (y5.alloc (.cells #[.int .i64 a0.st, .string a0.us, .int .i64 a0.sp, .string a0.nm] 28)) := (Below.refl _ _).alloc (Nat.le_refl _) _
                    have hYa := below_call hYd hal
                    have hQ5 := Lib.hid (hP5.call RJ.stay hal)
                    have hQ6 := Lib.hid (hP6.call RJ.stay hal)
                    have kba := heap_call hal kbd
                    have kca := Blk.cell kba
                    refine wpAnyH_ready (rs := [10]) (by kernel_rfl) (by simp) ?_
                    refine AllReadyH.cons (o := { dst := some 76, op := Go.Op.call { callee := Go.Callee.builtin Go.Builtin.append, args := #[Go.Operand.tmp 67, Go.Operand.tmp 75], argTypes := #[22, 22] }, type := 22, pos := "law.go:77", after := #[{ on := 1, ground := Go.Ground.data }, { on := 9, ground := Go.Ground.data }, { on := 6, ground := Go.Ground.chain }], guard := none }) rfl (fun K hK => ?_) ?_
                    · (refine step_append_r _ rfl (.tmp 67) (.tmp 75) 22 rfl 4 48 yd.heap.size 28 i0 _ RJ.stay (by decide) Tryd.underlying22 hi0 hz0 hz1 hz2 rfl (by omega) (some ⟨ga, 0, none⟩) n c5 L (by simp [Act.eval, Act.put]) hQ5.out (some ⟨y5.heap.size, 0, none⟩) 1 1 (by simp [Act.eval, Act.put]) [a0] _ (Reads.litAt (cs := #[.int .i64 a0.st, .string a0.us, .int .i64 a0.sp, .string a0.nm]) rfl rfl) (RdJ.lit (t := 0) a0) rfl ?_ ?_ ?_ ?_ ?_; (focus (simp [Value.oneCell'])); (focus (unfold maxLen; omega)); (focus omega); (focus (exact hYa.size)); intro A7 c7 w7 ho7 hg7)
                      refine hK.out _ _ ?_ (fun hHeld6 => ?_)
                      · try dsimp only
                        try exact trivial
                      clear hK K
                      try simp only [Act.put, List.setIfInBounds_toArray, List.set_cons_zero, List.set_cons_succ]
                      have hY7 := hYa.trans hg7.b
                      have kb7 : w7.heap[gb]? = _ := (hg7.g.block gb (Blk.lt kba) (fun e => hgab.symm (by injection e))).trans kba
                      have kc7 := Blk.cell kb7
                      have kf7 := Blk.frozen kb7
                      have hB7 := OwJ.block_ne ho7 kb7 (by decide)
                      have hR6 := OwJ.grownB hQ6.out hg7 hNe
                      refine wpAnyH_take (i := 11) (oi := { dst := some 77, op := Go.Op.fieldAddr 24 (Go.Operand.tmp 12) 0, type := 0, pos := "law.go:77", after := #[{ on := 0, ground := Go.Ground.phase }, { on := 1, ground := Go.Ground.phase }, { on := 2, ground := Go.Ground.phase }, { on := 3, ground := Go.Ground.phase }, { on := 4, ground := Go.Ground.phase }, { on := 5, ground := Go.Ground.phase }, { on := 6, ground := Go.Ground.phase }, { on := 7, ground := Go.Ground.phase }, { on := 8, ground := Go.Ground.phase }, { on := 9, ground := Go.Ground.phase }, { on := 10, ground := Go.Ground.phase }], guard := none }) (v := .pointer (some ⟨gb, 0, none⟩)) rfl (by kernel_rfl) (by kernel_rfl) (by kernel_rfl) (fun _ _ _ h => h) (Or.inl ⟨by rfl, ?_⟩) (by assumption) ?_
                      · (intro W hSw; (try dsimp only at hSw); go_simp; try with_reducible rfl)
                      try simp only [Act.put, List.setIfInBounds_toArray, List.set_cons_zero, List.set_cons_succ]
                      refine wpAnyH_ready (rs := [12]) (by kernel_rfl) (by simp) ?_
                      refine AllReadyH.cons (o := { dst := none, op := Go.Op.store 22 (Go.Operand.tmp 77) (Go.Operand.tmp 76), type := 0, pos := "law.go:77", after := #[{ on := 11, ground := Go.Ground.data }, { on := 10, ground := Go.Ground.data }, { on := 10, ground := Go.Ground.chain }, { on := 0, ground := Go.Ground.phase }, { on := 1, ground := Go.Ground.phase }, { on := 2, ground := Go.Ground.phase }, { on := 3, ground := Go.Ground.phase }, { on := 4, ground := Go.Ground.phase }, { on := 5, ground := Go.Ground.phase }, { on := 6, ground := Go.Ground.phase }, { on := 7, ground := Go.Ground.phase }, { on := 8, ground := Go.Ground.phase }, { on := 9, ground := Go.Ground.phase }, { on := 10, ground := Go.Ground.phase }], guard := none }) rfl (fun K hK => ?_) ?_
                      · go_simp
                        refine hK.out _ _ ?_ (fun hHeld7 => ?_)
                        · try dsimp only
                          try exact trivial
                        clear hK K
                        try simp only [Act.put, List.setIfInBounds_toArray, List.set_cons_zero, List.set_cons_succ]
                        refine wpAnyH_done (by kernel_rfl) ?_ _
                        have hO7 := OwJ.setN ho7 hB7 0 (.slice A7 (n + 1) c7)
                        have hO8 := OwJ.setN hR6 hB 0 (.slice A7 (n + 1) c7)
                        go_wp2_with fail
                        go_meet
                        exact ⟨_, M, A7, n + 1, c7, B5, m, d5, hY7.setCell hgY _, heap_set_near _ _ _ _ _ _ kb7, hO7.rd, hO8.rd, by omega, by omega, fun a ha => by
                          rcases List.mem_append.1 ha with h | h
                          · exact HLW.out a h
                          · simp only [List.mem_singleton] at h; rw [h]; exact HWA.out⟩
                      exact AllReadyH.nil
                    exact AllReadyH.nil
                  exact AllReadyH.nil
                exact AllReadyH.nil
              refine AllReadyH.cons (o := { dst := some 74, op := Go.Op.load 28 (Go.Operand.tmp 73), type := 28, pos := "law.go:77", after := #[{ on := 7, ground := Go.Ground.data }], guard := none }) rfl (fun K hK => ?_) ?_
              · go_simp
                refine hK.out _ _ ?_ (fun hHeld3 => ?_)
                · try dsimp only
                  try exact trivial
                clear hK K
                try simp only [Act.put, List.setIfInBounds_toArray, List.set_cons_zero, List.set_cons_succ]
                refine wpAnyH_ready (rs := [1, 9]) (by kernel_rfl) (by simp) ?_
                refine AllReadyH.cons (o := { dst := some 67, op := Go.Op.load 22 (Go.Operand.tmp 66), type := 22, pos := "law.go:77", after := #[{ on := 0, ground := Go.Ground.data }], guard := none }) rfl (fun K hK => ?_) ?_
                · go_simp
                  refine hK.out _ _ ?_ (fun hHeld4 => ?_)
                  · try dsimp only
                    try exact trivial
                  clear hK K
                  try simp only [Act.put, List.setIfInBounds_toArray, List.set_cons_zero, List.set_cons_succ]
                  refine wpAnyH_ready (rs := [9]) (by kernel_rfl) (by simp) ?_
                  refine AllReadyH.cons (o := { dst := some 75, op := Go.Op.buildSlice 22 1 #[(0, Go.Operand.tmp 74)], type := 22, pos := "law.go:77", after := #[{ on := 8, ground := Go.Ground.data }], guard := none }) rfl (fun K hK => ?_) ?_
                  · go_simp
                    refine hK.out _ _ ?_ (fun hHeld5 => ?_)
                    · try dsimp only
                      try exact trivial
                    clear hK K
                    try simp only [Act.put, List.setIfInBounds_toArray, List.set_cons_zero, List.set_cons_succ]
                    have hal : Below y5.heap.size y5 (y5.alloc (.cells #[.int .i64 a0.st, .string a0.us, .int .i64 a0.sp, .string a0.nm] 28)) := (Below.refl _ _).alloc (Nat.le_refl _) _
                    have hYa := below_call hYd hal
                    have hQ5 := Lib.hid (hP5.call RJ.stay hal)
                    have hQ6 := Lib.hid (hP6.call RJ.stay hal)
                    have kba := heap_call hal kbd
                    have kca := Blk.cell kba
                    refine wpAnyH_ready (rs := [10]) (by kernel_rfl) (by simp) ?_
                    refine AllReadyH.cons (o := { dst := some 76, op := Go.Op.call { callee := Go.Callee.builtin Go.Builtin.append, args := #[Go.Operand.tmp 67, Go.Operand.tmp 75], argTypes := #[22, 22] }, type := 22, pos := "law.go:77", after := #[{ on := 1, ground := Go.Ground.data }, { on := 9, ground := Go.Ground.data }, { on := 6, ground := Go.Ground.chain }], guard := none }) rfl (fun K hK => ?_) ?_
                    · (refine step_append_r _ rfl (.tmp 67) (.tmp 75) 22 rfl 4 48 yd.heap.size 28 i0 _ RJ.stay (by decide) Tryd.underlying22 hi0 hz0 hz1 hz2 rfl (by omega) (some ⟨ga, 0, none⟩) n c5 L (by simp [Act.eval, Act.put]) hQ5.out (some ⟨y5.heap.size, 0, none⟩) 1 1 (by simp [Act.eval, Act.put]) [a0] _ (Reads.litAt (cs := #[.int .i64 a0.st, .string a0.us, .int .i64 a0.sp, .string a0.nm]) rfl rfl) (RdJ.lit (t := 0) a0) rfl ?_ ?_ ?_ ?_ ?_; (focus (simp [Value.oneCell'])); (focus (unfold maxLen; omega)); (focus omega); (focus (exact hYa.size)); intro A7 c7 w7 ho7 hg7)
                      refine hK.out _ _ ?_ (fun hHeld6 => ?_)
                      · try dsimp only
                        try exact trivial
                      clear hK K
                      try simp only [Act.put, List.setIfInBounds_toArray, List.set_cons_zero, List.set_cons_succ]
                      have hY7 := hYa.trans hg7.b
                      have kb7 : w7.heap[gb]? = _ := (hg7.g.block gb (Blk.lt kba) (fun e => hgab.symm (by injection e))).trans kba
                      have kc7 := Blk.cell kb7
                      have kf7 := Blk.frozen kb7
                      have hB7 := OwJ.block_ne ho7 kb7 (by decide)
                      have hR6 := OwJ.grownB hQ6.out hg7 hNe
                      refine wpAnyH_take (i := 11) (oi := { dst := some 77, op := Go.Op.fieldAddr 24 (Go.Operand.tmp 12) 0, type := 0, pos := "law.go:77", after := #[{ on := 0, ground := Go.Ground.phase }, { on := 1, ground := Go.Ground.phase }, { on := 2, ground := Go.Ground.phase }, { on := 3, ground := Go.Ground.phase }, { on := 4, ground := Go.Ground.phase }, { on := 5, ground := Go.Ground.phase }, { on := 6, ground := Go.Ground.phase }, { on := 7, ground := Go.Ground.phase }, { on := 8, ground := Go.Ground.phase }, { on := 9, ground := Go.Ground.phase }, { on := 10, ground := Go.Ground.phase }], guard := none }) (v := .pointer (some ⟨gb, 0, none⟩)) rfl (by kernel_rfl) (by kernel_rfl) (by kernel_rfl) (fun _ _ _ h => h) (Or.inl ⟨by rfl, ?_⟩) (by assumption) ?_
                      · (intro W hSw; (try dsimp only at hSw); go_simp; try with_reducible rfl)
                      try simp only [Act.put, List.setIfInBounds_toArray, List.set_cons_zero, List.set_cons_succ]
                      refine wpAnyH_ready (rs := [12]) (by kernel_rfl) (by simp) ?_
                      refine AllReadyH.cons (o := { dst := none, op := Go.Op.store 22 (Go.Operand.tmp 77) (Go.Operand.tmp 76), type := 0, pos := "law.go:77", after := #[{ on := 11, ground := Go.Ground.data }, { on := 10, ground := Go.Ground.data }, { on := 10, ground := Go.Ground.chain }, { on := 0, ground := Go.Ground.phase }, { on := 1, ground := Go.Ground.phase }, { on := 2, ground := Go.Ground.phase }, { on := 3, ground := Go.Ground.phase }, { on := 4, ground := Go.Ground.phase }, { on := 5, ground := Go.Ground.phase }, { on := 6, ground := Go.Ground.phase }, { on := 7, ground := Go.Ground.phase }, { on := 8, ground := Go.Ground.phase }, { on := 9, ground := Go.Ground.phase }, { on := 10, ground := Go.Ground.phase }], guard := none }) rfl (fun K hK => ?_) ?_
                      · go_simp
                        refine hK.out _ _ ?_ (fun hHeld7 => ?_)
                        · try dsimp only
                          try exact trivial
                        clear hK K
                        try simp only [Act.put, List.setIfInBounds_toArray, List.set_cons_zero, List.set_cons_succ]
                        refine wpAnyH_done (by kernel_rfl) ?_ _
                        have hO7 := OwJ.setN ho7 hB7 0 (.slice A7 (n + 1) c7)
                        have hO8 := OwJ.setN hR6 hB 0 (.slice A7 (n + 1) c7)
                        go_wp2_with fail
                        go_meet
                        exact ⟨_, M, A7, n + 1, c7, B5, m, d5, hY7.setCell hgY _, heap_set_near _ _ _ _ _ _ kb7, hO7.rd, hO8.rd, by omega, by omega, fun a ha => by
                          rcases List.mem_append.1 ha with h | h
                          · exact HLW.out a h
                          · simp only [List.mem_singleton] at h; rw [h]; exact HWA.out⟩
                      exact AllReadyH.nil
                    exact AllReadyH.nil
                  exact AllReadyH.nil
                refine AllReadyH.cons (o := { dst := some 75, op := Go.Op.buildSlice 22 1 #[(0, Go.Operand.tmp 74)], type := 22, pos := "law.go:77", after := #[{ on := 8, ground := Go.Ground.data }], guard := none }) rfl (fun K hK => ?_) ?_
                · go_simp
                  refine hK.out _ _ ?_ (fun hHeld4 => ?_)
                  · try dsimp only
                    try exact trivial
                  clear hK K
                  try simp only [Act.put, List.setIfInBounds_toArray, List.set_cons_zero, List.set_cons_succ]
                  have hal : Below y5.heap.size y5 (y5.alloc (.cells #[.int .i64 a0.st, .string a0.us, .int .i64 a0.sp, .string a0.nm] 28)) := (Below.refl _ _).alloc (Nat.le_refl _) _
                  have hYa := below_call hYd hal
                  have hQ5 := Lib.hid (hP5.call RJ.stay hal)
                  have hQ6 := Lib.hid (hP6.call RJ.stay hal)
                  have kba := heap_call hal kbd
                  have kca := Blk.cell kba
                  refine wpAnyH_ready (rs := [1]) (by kernel_rfl) (by simp) ?_
                  refine AllReadyH.cons (o := { dst := some 67, op := Go.Op.load 22 (Go.Operand.tmp 66), type := 22, pos := "law.go:77", after := #[{ on := 0, ground := Go.Ground.data }], guard := none }) rfl (fun K hK => ?_) ?_
                  · go_simp
                    refine hK.out _ _ ?_ (fun hHeld5 => ?_)
                    · try dsimp only
                      try exact trivial
                    clear hK K
                    try simp only [Act.put, List.setIfInBounds_toArray, List.set_cons_zero, List.set_cons_succ]
                    refine wpAnyH_ready (rs := [10]) (by kernel_rfl) (by simp) ?_
                    refine AllReadyH.cons (o := { dst := some 76, op := Go.Op.call { callee := Go.Callee.builtin Go.Builtin.append, args := #[Go.Operand.tmp 67, Go.Operand.tmp 75], argTypes := #[22, 22] }, type := 22, pos := "law.go:77", after := #[{ on := 1, ground := Go.Ground.data }, { on := 9, ground := Go.Ground.data }, { on := 6, ground := Go.Ground.chain }], guard := none }) rfl (fun K hK => ?_) ?_
                    · (refine step_append_r _ rfl (.tmp 67) (.tmp 75) 22 rfl 4 48 yd.heap.size 28 i0 _ RJ.stay (by decide) Tryd.underlying22 hi0 hz0 hz1 hz2 rfl (by omega) (some ⟨ga, 0, none⟩) n c5 L (by simp [Act.eval, Act.put]) hQ5.out (some ⟨y5.heap.size, 0, none⟩) 1 1 (by simp [Act.eval, Act.put]) [a0] _ (Reads.litAt (cs := #[.int .i64 a0.st, .string a0.us, .int .i64 a0.sp, .string a0.nm]) rfl rfl) (RdJ.lit (t := 0) a0) rfl ?_ ?_ ?_ ?_ ?_; (focus (simp [Value.oneCell'])); (focus (unfold maxLen; omega)); (focus omega); (focus (exact hYa.size)); intro A7 c7 w7 ho7 hg7)
                      refine hK.out _ _ ?_ (fun hHeld6 => ?_)
                      · try dsimp only
                        try exact trivial
                      clear hK K
                      try simp only [Act.put, List.setIfInBounds_toArray, List.set_cons_zero, List.set_cons_succ]
                      have hY7 := hYa.trans hg7.b
                      have kb7 : w7.heap[gb]? = _ := (hg7.g.block gb (Blk.lt kba) (fun e => hgab.symm (by injection e))).trans kba
                      have kc7 := Blk.cell kb7
                      have kf7 := Blk.frozen kb7
                      have hB7 := OwJ.block_ne ho7 kb7 (by decide)
                      have hR6 := OwJ.grownB hQ6.out hg7 hNe
                      refine wpAnyH_take (i := 11) (oi := { dst := some 77, op := Go.Op.fieldAddr 24 (Go.Operand.tmp 12) 0, type := 0, pos := "law.go:77", after := #[{ on := 0, ground := Go.Ground.phase }, { on := 1, ground := Go.Ground.phase }, { on := 2, ground := Go.Ground.phase }, { on := 3, ground := Go.Ground.phase }, { on := 4, ground := Go.Ground.phase }, { on := 5, ground := Go.Ground.phase }, { on := 6, ground := Go.Ground.phase }, { on := 7, ground := Go.Ground.phase }, { on := 8, ground := Go.Ground.phase }, { on := 9, ground := Go.Ground.phase }, { on := 10, ground := Go.Ground.phase }], guard := none }) (v := .pointer (some ⟨gb, 0, none⟩)) rfl (by kernel_rfl) (by kernel_rfl) (by kernel_rfl) (fun _ _ _ h => h) (Or.inl ⟨by rfl, ?_⟩) (by assumption) ?_
                      · (intro W hSw; (try dsimp only at hSw); go_simp; try with_reducible rfl)
                      try simp only [Act.put, List.setIfInBounds_toArray, List.set_cons_zero, List.set_cons_succ]
                      refine wpAnyH_ready (rs := [12]) (by kernel_rfl) (by simp) ?_
                      refine AllReadyH.cons (o := { dst := none, op := Go.Op.store 22 (Go.Operand.tmp 77) (Go.Operand.tmp 76), type := 0, pos := "law.go:77", after := #[{ on := 11, ground := Go.Ground.data }, { on := 10, ground := Go.Ground.data }, { on := 10, ground := Go.Ground.chain }, { on := 0, ground := Go.Ground.phase }, { on := 1, ground := Go.Ground.phase }, { on := 2, ground := Go.Ground.phase }, { on := 3, ground := Go.Ground.phase }, { on := 4, ground := Go.Ground.phase }, { on := 5, ground := Go.Ground.phase }, { on := 6, ground := Go.Ground.phase }, { on := 7, ground := Go.Ground.phase }, { on := 8, ground := Go.Ground.phase }, { on := 9, ground := Go.Ground.phase }, { on := 10, ground := Go.Ground.phase }], guard := none }) rfl (fun K hK => ?_) ?_
                      · go_simp
                        refine hK.out _ _ ?_ (fun hHeld7 => ?_)
                        · try dsimp only
                          try exact trivial
                        clear hK K
                        try simp only [Act.put, List.setIfInBounds_toArray, List.set_cons_zero, List.set_cons_succ]
                        refine wpAnyH_done (by kernel_rfl) ?_ _
                        have hO7 := OwJ.setN ho7 hB7 0 (.slice A7 (n + 1) c7)
                        have hO8 := OwJ.setN hR6 hB 0 (.slice A7 (n + 1) c7)
                        go_wp2_with fail
                        go_meet
                        exact ⟨_, M, A7, n + 1, c7, B5, m, d5, hY7.setCell hgY _, heap_set_near _ _ _ _ _ _ kb7, hO7.rd, hO8.rd, by omega, by omega, fun a ha => by
                          rcases List.mem_append.1 ha with h | h
                          · exact HLW.out a h
                          · simp only [List.mem_singleton] at h; rw [h]; exact HWA.out⟩
                      exact AllReadyH.nil
                    exact AllReadyH.nil
                  exact AllReadyH.nil
                exact AllReadyH.nil
              exact AllReadyH.nil
            exact AllReadyH.nil
          exact AllReadyH.nil
        · generalize L.getD i jb0 = a0 at *
          go_upto_region 6 with fail
          have hn1 : ((n : Int) == 0) = false := by simp; omega
          have hn2 : ¬ (n : Int) = 0 := by omega
          have hn3 : ¬ n = 0 := by omega
          have kcb := Blk.cell kbd
          refine wp_region_held_drew (S := fun _ => True) (by kernel_rfl) ?_ (fun hHeld0 => ?_)
          · exact trivial
          generalize w5.drew = y5 at *
          refine wpAnyH_take (i := 0) (oi := { dst := some 30, op := Go.Op.fieldAddr 24 (Go.Operand.tmp 12) 1, type := 0, pos := "law.go:79", after := #[], guard := none }) (v := .pointer (some ⟨gb, 1, none⟩)) rfl (by kernel_rfl) (by kernel_rfl) (by kernel_rfl) (fun _ _ _ h => h) (Or.inl ⟨by rfl, ?_⟩) (by assumption) ?_
          · (intro W hSw; (try dsimp only at hSw); go_simp; try with_reducible rfl)
          try simp only [Act.put, List.setIfInBounds_toArray, List.set_cons_zero, List.set_cons_succ]
          refine wpAnyH_take (i := 2) (oi := { dst := some 32, op := Go.Op.fieldAddr 24 (Go.Operand.tmp 12) 0, type := 0, pos := "law.go:79", after := #[], guard := none }) (v := .pointer (some ⟨gb, 0, none⟩)) rfl (by kernel_rfl) (by kernel_rfl) (by kernel_rfl) (fun _ _ _ h => h) (Or.inl ⟨by rfl, ?_⟩) (by assumption) ?_
          · (intro W hSw; (try dsimp only at hSw); go_simp; try with_reducible rfl)
          try simp only [Act.put, List.setIfInBounds_toArray, List.set_cons_zero, List.set_cons_succ]
          refine wpAnyH_take (i := 4) (oi := { dst := some 34, op := Go.Op.move (Go.Operand.tmp 3), type := 3, pos := "law.go:79", after := #[], guard := none }) (v := .int .i64 which) rfl (by kernel_rfl) (by kernel_rfl) (by kernel_rfl) (fun _ _ _ h => h) (Or.inl ⟨by rfl, ?_⟩) (by assumption) ?_
          · (intro W hSw; (try dsimp only at hSw); go_simp; try with_reducible rfl)
          try simp only [Act.put, List.setIfInBounds_toArray, List.set_cons_zero, List.set_cons_succ]
          refine wpAnyH_take (i := 5) (oi := { dst := some 35, op := Go.Op.move (Go.Operand.tmp 13), type := 3, pos := "law.go:79", after := #[], guard := none }) (v := .int .i64 (n : Int)) rfl (by kernel_rfl) (by kernel_rfl) (by kernel_rfl) (fun _ _ _ h => h) (Or.inl ⟨by rfl, ?_⟩) (by assumption) ?_
          · (intro W hSw; (try dsimp only at hSw); go_simp; try with_reducible rfl)
          try simp only [Act.put, List.setIfInBounds_toArray, List.set_cons_zero, List.set_cons_succ]
          refine wpAnyH_ready (rs := [1, 3, 6]) (by kernel_rfl) (by simp) ?_
          refine AllReadyH.cons (o := { dst := some 31, op := Go.Op.load 22 (Go.Operand.tmp 30), type := 22, pos := "law.go:79", after := #[{ on := 0, ground := Go.Ground.data }], guard := none }) rfl (fun K hK => ?_) ?_
          · go_simp
            refine hK.out _ _ ?_ (fun hHeld1 => ?_)
            · try dsimp only
              try exact trivial
            clear hK K
            try simp only [Act.put, List.setIfInBounds_toArray, List.set_cons_zero, List.set_cons_succ]
            refine wpAnyH_ready (rs := [3, 6]) (by kernel_rfl) (by simp) ?_
            refine AllReadyH.cons (o := { dst := some 33, op := Go.Op.load 22 (Go.Operand.tmp 32), type := 22, pos := "law.go:79", after := #[{ on := 2, ground := Go.Ground.data }], guard := none }) rfl (fun K hK => ?_) ?_
            · go_simp
              refine hK.out _ _ ?_ (fun hHeld2 => ?_)
              · try dsimp only
                try exact trivial
              clear hK K
              try simp only [Act.put, List.setIfInBounds_toArray, List.set_cons_zero, List.set_cons_succ]
              refine wpAnyH_ready (rs := [6]) (by kernel_rfl) (by simp) ?_
              refine AllReadyH.cons (o := { dst := some 36, op := Go.Op.call { callee := Go.Callee.value (Go.Operand.func 16), args := #[Go.Operand.tmp 34, Go.Operand.tmp 35], argTypes := #[3, 3] }, type := 3, pos := "law.go:79", after := #[{ on := 4, ground := Go.Ground.data }, { on := 5, ground := Go.Ground.data }], guard := none }) rfl (fun K hK => ?_) ?_
              · go_simp
                (go_at_call 16; refine (HR.out _).mono ?_; rintro e wn ⟨rfl, hwn⟩; obtain rfl := hwn.symm; clear hwn)
                refine hK.out _ _ ?_ (fun hHeld3 => ?_)
                · try dsimp only
                  try exact trivial
                clear hK K
                try simp only [Act.put, List.setIfInBounds_toArray, List.set_cons_zero, List.set_cons_succ]
                refine wpAnyH_take (i := 7) (oi := { dst := some 37, op := Go.Op.indexAddr 22 (Go.Operand.tmp 33) (Go.Operand.tmp 36), type := 0, pos := "law.go:79", after := #[{ on := 3, ground := Go.Ground.data }, { on := 6, ground := Go.Ground.data }], guard := none }) (v := .pointer (some ⟨ga, i * 4, none⟩)) rfl (by kernel_rfl) (by kernel_rfl) (by kernel_rfl) (fun _ _ _ h => h) (Or.inl ⟨by rfl, ?_⟩) (by assumption) ?_
                · (intro W hSw; (try dsimp only at hSw); go_simp; try with_reducible rfl)
                try simp only [Act.put, List.setIfInBounds_toArray, List.set_cons_zero, List.set_cons_succ]
                refine wpAnyH_ready (rs := [8]) (by kernel_rfl) (by simp) ?_
                refine AllReadyH.cons (o := { dst := some 38, op := Go.Op.load 28 (Go.Operand.tmp 37), type := 28, pos := "law.go:79", after := #[{ on := 7, ground := Go.Ground.data }], guard := none }) rfl (fun K hK => ?_) ?_
                · go_simp
                  refine hK.out _ _ ?_ (fun hHeld4 => ?_)
                  · try dsimp only
                    try exact trivial
                  clear hK K
                  try simp only [Act.put, List.setIfInBounds_toArray, List.set_cons_zero, List.set_cons_succ]
                  refine wpAnyH_ready (rs := [9]) (by kernel_rfl) (by simp) ?_
                  refine AllReadyH.cons (o := { dst := some 39, op := Go.Op.buildSlice 22 1 #[(0, Go.Operand.tmp 38)], type := 22, pos := "law.go:79", after := #[{ on := 8, ground := Go.Ground.data }], guard := none }) rfl (fun K hK => ?_) ?_
                  · go_simp
                    refine hK.out _ _ ?_ (fun hHeld5 => ?_)
                    · try dsimp only
                      try exact trivial
                    clear hK K
                    try simp only [Act.put, List.setIfInBounds_toArray, List.set_cons_zero, List.set_cons_succ]
                    have hal : Below y5.heap.size y5 (y5.alloc (.cells #[.int .i64 a0.st, .string a0.us, .int .i64 a0.sp, .string a0.nm] 28)) := (Below.refl _ _).alloc (Nat.le_refl _) _
                    have hYa := below_call hYd hal
                    have hQ5 := Lib.hid (hP5.call RJ.stay hal)
                    have hQ6 := Lib.hid (hP6.call RJ.stay hal)
                    have kba := heap_call hal kbd
                    have kca := Blk.cell kba
                    refine wpAnyH_ready (rs := [10]) (by kernel_rfl) (by simp) ?_
                    refine AllReadyH.cons (o := { dst := some 40, op := Go.Op.call { callee := Go.Callee.builtin Go.Builtin.append, args := #[Go.Operand.tmp 31, Go.Operand.tmp 39], argTypes := #[22, 22] }, type := 22, pos := "law.go:79", after := #[{ on := 1, ground := Go.Ground.data }, { on := 9, ground := Go.Ground.data }, { on := 6, ground := Go.Ground.chain }], guard := none }) rfl (fun K hK => ?_) ?_
                    · (refine step_append_r _ rfl (.tmp 31) (.tmp 39) 22 rfl 4 48 yd.heap.size 28 i0 _ RJ.stay (by decide) Tryd.underlying22 hi0 hz0 hz1 hz2 rfl (by omega) B5 m d5 M (by simp [Act.eval, Act.put]) hQ6.out (some ⟨y5.heap.size, 0, none⟩) 1 1 (by simp [Act.eval, Act.put]) [a0] _ (Reads.litAt (cs := #[.int .i64 a0.st, .string a0.us, .int .i64 a0.sp, .string a0.nm]) rfl rfl) (RdJ.lit (t := 0) a0) rfl ?_ ?_ ?_ ?_ ?_; (focus (simp [Value.oneCell'])); (focus (unfold maxLen; omega)); (focus omega); (focus (exact hYa.size)); intro A7 c7 w7 ho7 hg7)
                      refine hK.out _ _ ?_ (fun hHeld6 => ?_)
                      · try dsimp only
                        try exact trivial
                      clear hK K
                      try simp only [Act.put, List.setIfInBounds_toArray, List.set_cons_zero, List.set_cons_succ]
                      have hY7 := hYa.trans hg7.b
                      have kb7 : w7.heap[gb]? = _ := (hg7.g.block gb (Blk.lt kba) (fun e => hB e.symm)).trans kba
                      have kc7 := Blk.cell kb7
                      have kf7 := Blk.frozen kb7
                      have hB7 := OwJ.block_ne ho7 kb7 (by decide)
                      have hR5 := OwJ.grownB hQ5.out hg7 hNe.symm
                      refine wpAnyH_take (i := 11) (oi := { dst := some 41, op := Go.Op.fieldAddr 24 (Go.Operand.tmp 12) 1, type := 0, pos := "law.go:79", after := #[{ on := 0, ground := Go.Ground.phase }, { on := 1, ground := Go.Ground.phase }, { on := 2, ground := Go.Ground.phase }, { on := 3, ground := Go.Ground.phase }, { on := 4, ground := Go.Ground.phase }, { on := 5, ground := Go.Ground.phase }, { on := 6, ground := Go.Ground.phase }, { on := 7, ground := Go.Ground.phase }, { on := 8, ground := Go.Ground.phase }, { on := 9, ground := Go.Ground.phase }, { on := 10, ground := Go.Ground.phase }], guard := none }) (v := .pointer (some ⟨gb, 1, none⟩)) rfl (by kernel_rfl) (by kernel_rfl) (by kernel_rfl) (fun _ _ _ h => h) (Or.inl ⟨by rfl, ?_⟩) (by assumption) ?_
                      · (intro W hSw; (try dsimp only at hSw); go_simp; try with_reducible rfl)
                      try simp only [Act.put, List.setIfInBounds_toArray, List.set_cons_zero, List.set_cons_succ]
                      refine wpAnyH_ready (rs := [12]) (by kernel_rfl) (by simp) ?_
                      refine AllReadyH.cons (o := { dst := none, op := Go.Op.store 22 (Go.Operand.tmp 41) (Go.Operand.tmp 40), type := 0, pos := "law.go:79", after := #[{ on := 11, ground := Go.Ground.data }, { on := 10, ground := Go.Ground.data }, { on := 10, ground := Go.Ground.chain }, { on := 0, ground := Go.Ground.phase }, { on := 1, ground := Go.Ground.phase }, { on := 2, ground := Go.Ground.phase }, { on := 3, ground := Go.Ground.phase }, { on := 4, ground := Go.Ground.phase }, { on := 5, ground := Go.Ground.phase }, { on := 6, ground := Go.Ground.phase }, { on := 7, ground := Go.Ground.phase }, { on := 8, ground := Go.Ground.phase }, { on := 9, ground := Go.Ground.phase }, { on := 10, ground := Go.Ground.phase }], guard := none }) rfl (fun K hK => ?_) ?_
                      · go_simp
                        refine hK.out _ _ ?_ (fun hHeld7 => ?_)
                        · try dsimp only
                          try exact trivial
                        clear hK K
                        try simp only [Act.put, List.setIfInBounds_toArray, List.set_cons_zero, List.set_cons_succ]
                        refine wpAnyH_done (by kernel_rfl) ?_ _
                        have hO7 := OwJ.setN hR5 hA 1 (.slice A7 (m + 1) c7)
                        have hO8 := OwJ.setN ho7 hB7 1 (.slice A7 (m + 1) c7)
                        go_wp2_with fail
                        go_meet
                        exact ⟨L, _, _, n, c5, A7, m + 1, c7, hY7.setCell hgY _, heap_set_near _ _ _ _ _ _ kb7, hO7.rd, hO8.rd, by omega, by omega, HLW.out⟩
                      exact AllReadyH.nil
                    exact AllReadyH.nil
                  exact AllReadyH.nil
                exact AllReadyH.nil
              exact AllReadyH.nil
            refine AllReadyH.cons (o := { dst := some 36, op := Go.Op.call { callee := Go.Callee.value (Go.Operand.func 16), args := #[Go.Operand.tmp 34, Go.Operand.tmp 35], argTypes := #[3, 3] }, type := 3, pos := "law.go:79", after := #[{ on := 4, ground := Go.Ground.data }, { on := 5, ground := Go.Ground.data }], guard := none }) rfl (fun K hK => ?_) ?_
            · go_simp
              (go_at_call 16; refine (HR.out _).mono ?_; rintro e wn ⟨rfl, hwn⟩; obtain rfl := hwn.symm; clear hwn)
              refine hK.out _ _ ?_ (fun hHeld2 => ?_)
              · try dsimp only
                try exact trivial
              clear hK K
              try simp only [Act.put, List.setIfInBounds_toArray, List.set_cons_zero, List.set_cons_succ]
              refine wpAnyH_ready (rs := [3]) (by kernel_rfl) (by simp) ?_
              refine AllReadyH.cons (o := { dst := some 33, op := Go.Op.load 22 (Go.Operand.tmp 32), type := 22, pos := "law.go:79", after := #[{ on := 2, ground := Go.Ground.data }], guard := none }) rfl (fun K hK => ?_) ?_
              · go_simp
                refine hK.out _ _ ?_ (fun hHeld3 => ?_)
                · try dsimp only
                  try exact trivial
                clear hK K
                try simp only [Act.put, List.setIfInBounds_toArray, List.set_cons_zero, List.set_cons_succ]
                refine wpAnyH_take (i := 7) (oi := { dst := some 37, op := Go.Op.indexAddr 22 (Go.Operand.tmp 33) (Go.Operand.tmp 36), type := 0, pos := "law.go:79", after := #[{ on := 3, ground := Go.Ground.data }, { on := 6, ground := Go.Ground.data }], guard := none }) (v := .pointer (some ⟨ga, i * 4, none⟩)) rfl (by kernel_rfl) (by kernel_rfl) (by kernel_rfl) (fun _ _ _ h => h) (Or.inl ⟨by rfl, ?_⟩) (by assumption) ?_
                · (intro W hSw; (try dsimp only at hSw); go_simp; try with_reducible rfl)
                try simp only [Act.put, List.setIfInBounds_toArray, List.set_cons_zero, List.set_cons_succ]
                refine wpAnyH_ready (rs := [8]) (by kernel_rfl) (by simp) ?_
                refine AllReadyH.cons (o := { dst := some 38, op := Go.Op.load 28 (Go.Operand.tmp 37), type := 28, pos := "law.go:79", after := #[{ on := 7, ground := Go.Ground.data }], guard := none }) rfl (fun K hK => ?_) ?_
                · go_simp
                  refine hK.out _ _ ?_ (fun hHeld4 => ?_)
                  · try dsimp only
                    try exact trivial
                  clear hK K
                  try simp only [Act.put, List.setIfInBounds_toArray, List.set_cons_zero, List.set_cons_succ]
                  refine wpAnyH_ready (rs := [9]) (by kernel_rfl) (by simp) ?_
                  refine AllReadyH.cons (o := { dst := some 39, op := Go.Op.buildSlice 22 1 #[(0, Go.Operand.tmp 38)], type := 22, pos := "law.go:79", after := #[{ on := 8, ground := Go.Ground.data }], guard := none }) rfl (fun K hK => ?_) ?_
                  · go_simp
                    refine hK.out _ _ ?_ (fun hHeld5 => ?_)
                    · try dsimp only
                      try exact trivial
                    clear hK K
                    try simp only [Act.put, List.setIfInBounds_toArray, List.set_cons_zero, List.set_cons_succ]
                    have hal : Below y5.heap.size y5 (y5.alloc (.cells #[.int .i64 a0.st, .string a0.us, .int .i64 a0.sp, .string a0.nm] 28)) := (Below.refl _ _).alloc (Nat.le_refl _) _
                    have hYa := below_call hYd hal
                    have hQ5 := Lib.hid (hP5.call RJ.stay hal)
                    have hQ6 := Lib.hid (hP6.call RJ.stay hal)
                    have kba := heap_call hal kbd
                    have kca := Blk.cell kba
                    refine wpAnyH_ready (rs := [10]) (by kernel_rfl) (by simp) ?_
                    refine AllReadyH.cons (o := { dst := some 40, op := Go.Op.call { callee := Go.Callee.builtin Go.Builtin.append, args := #[Go.Operand.tmp 31, Go.Operand.tmp 39], argTypes := #[22, 22] }, type := 22, pos := "law.go:79", after := #[{ on := 1, ground := Go.Ground.data }, { on := 9, ground := Go.Ground.data }, { on := 6, ground := Go.Ground.chain }], guard := none }) rfl (fun K hK => ?_) ?_
                    · (refine step_append_r _ rfl (.tmp 31) (.tmp 39) 22 rfl 4 48 yd.heap.size 28 i0 _ RJ.stay (by decide) Tryd.underlying22 hi0 hz0 hz1 hz2 rfl (by omega) B5 m d5 M (by simp [Act.eval, Act.put]) hQ6.out (some ⟨y5.heap.size, 0, none⟩) 1 1 (by simp [Act.eval, Act.put]) [a0] _ (Reads.litAt (cs := #[.int .i64 a0.st, .string a0.us, .int .i64 a0.sp, .string a0.nm]) rfl rfl) (RdJ.lit (t := 0) a0) rfl ?_ ?_ ?_ ?_ ?_; (focus (simp [Value.oneCell'])); (focus (unfold maxLen; omega)); (focus omega); (focus (exact hYa.size)); intro A7 c7 w7 ho7 hg7)
                      refine hK.out _ _ ?_ (fun hHeld6 => ?_)
                      · try dsimp only
                        try exact trivial
                      clear hK K
                      try simp only [Act.put, List.setIfInBounds_toArray, List.set_cons_zero, List.set_cons_succ]
                      have hY7 := hYa.trans hg7.b
                      have kb7 : w7.heap[gb]? = _ := (hg7.g.block gb (Blk.lt kba) (fun e => hB e.symm)).trans kba
                      have kc7 := Blk.cell kb7
                      have kf7 := Blk.frozen kb7
                      have hB7 := OwJ.block_ne ho7 kb7 (by decide)
                      have hR5 := OwJ.grownB hQ5.out hg7 hNe.symm
                      refine wpAnyH_take (i := 11) (oi := { dst := some 41, op := Go.Op.fieldAddr 24 (Go.Operand.tmp 12) 1, type := 0, pos := "law.go:79", after := #[{ on := 0, ground := Go.Ground.phase }, { on := 1, ground := Go.Ground.phase }, { on := 2, ground := Go.Ground.phase }, { on := 3, ground := Go.Ground.phase }, { on := 4, ground := Go.Ground.phase }, { on := 5, ground := Go.Ground.phase }, { on := 6, ground := Go.Ground.phase }, { on := 7, ground := Go.Ground.phase }, { on := 8, ground := Go.Ground.phase }, { on := 9, ground := Go.Ground.phase }, { on := 10, ground := Go.Ground.phase }], guard := none }) (v := .pointer (some ⟨gb, 1, none⟩)) rfl (by kernel_rfl) (by kernel_rfl) (by kernel_rfl) (fun _ _ _ h => h) (Or.inl ⟨by rfl, ?_⟩) (by assumption) ?_
                      · (intro W hSw; (try dsimp only at hSw); go_simp; try with_reducible rfl)
                      try simp only [Act.put, List.setIfInBounds_toArray, List.set_cons_zero, List.set_cons_succ]
                      refine wpAnyH_ready (rs := [12]) (by kernel_rfl) (by simp) ?_
                      refine AllReadyH.cons (o := { dst := none, op := Go.Op.store 22 (Go.Operand.tmp 41) (Go.Operand.tmp 40), type := 0, pos := "law.go:79", after := #[{ on := 11, ground := Go.Ground.data }, { on := 10, ground := Go.Ground.data }, { on := 10, ground := Go.Ground.chain }, { on := 0, ground := Go.Ground.phase }, { on := 1, ground := Go.Ground.phase }, { on := 2, ground := Go.Ground.phase }, { on := 3, ground := Go.Ground.phase }, { on := 4, ground := Go.Ground.phase }, { on := 5, ground := Go.Ground.phase }, { on := 6, ground := Go.Ground.phase }, { on := 7, ground := Go.Ground.phase }, { on := 8, ground := Go.Ground.phase }, { on := 9, ground := Go.Ground.phase }, { on := 10, ground := Go.Ground.phase }], guard := none }) rfl (fun K hK => ?_) ?_
                      · go_simp
                        refine hK.out _ _ ?_ (fun hHeld7 => ?_)
                        · try dsimp only
                          try exact trivial
                        clear hK K
                        try simp only [Act.put, List.setIfInBounds_toArray, List.set_cons_zero, List.set_cons_succ]
                        refine wpAnyH_done (by kernel_rfl) ?_ _
                        have hO7 := OwJ.setN hR5 hA 1 (.slice A7 (m + 1) c7)
                        have hO8 := OwJ.setN ho7 hB7 1 (.slice A7 (m + 1) c7)
                        go_wp2_with fail
                        go_meet
                        exact ⟨L, _, _, n, c5, A7, m + 1, c7, hY7.setCell hgY _, heap_set_near _ _ _ _ _ _ kb7, hO7.rd, hO8.rd, by omega, by omega, HLW.out⟩
                      exact AllReadyH.nil
                    exact AllReadyH.nil
                  exact AllReadyH.nil
                exact AllReadyH.nil
              exact AllReadyH.nil
            exact AllReadyH.nil
          refine AllReadyH.cons (o := { dst := some 33, op := Go.Op.load 22 (Go.Operand.tmp 32), type := 22, pos := "law.go:79", after := #[{ on := 2, ground := Go.Ground.data }], guard := none }) rfl (fun K hK => ?_) ?_
          · go_simp
            refine hK.out _ _ ?_ (fun hHeld1 => ?_)
            · try dsimp only
              try exact trivial
            clear hK K
            try simp only [Act.put, List.setIfInBounds_toArray, List.set_cons_zero, List.set_cons_succ]
            refine wpAnyH_ready (rs := [1, 6]) (by kernel_rfl) (by simp) ?_
            refine AllReadyH.cons (o := { dst := some 31, op := Go.Op.load 22 (Go.Operand.tmp 30), type := 22, pos := "law.go:79", after := #[{ on := 0, ground := Go.Ground.data }], guard := none }) rfl (fun K hK => ?_) ?_
            · go_simp
              refine hK.out _ _ ?_ (fun hHeld2 => ?_)
              · try dsimp only
                try exact trivial
              clear hK K
              try simp only [Act.put, List.setIfInBounds_toArray, List.set_cons_zero, List.set_cons_succ]
              refine wpAnyH_ready (rs := [6]) (by kernel_rfl) (by simp) ?_
              refine AllReadyH.cons (o := { dst := some 36, op := Go.Op.call { callee := Go.Callee.value (Go.Operand.func 16), args := #[Go.Operand.tmp 34, Go.Operand.tmp 35], argTypes := #[3, 3] }, type := 3, pos := "law.go:79", after := #[{ on := 4, ground := Go.Ground.data }, { on := 5, ground := Go.Ground.data }], guard := none }) rfl (fun K hK => ?_) ?_
              · go_simp
                (go_at_call 16; refine (HR.out _).mono ?_; rintro e wn ⟨rfl, hwn⟩; obtain rfl := hwn.symm; clear hwn)
                refine hK.out _ _ ?_ (fun hHeld3 => ?_)
                · try dsimp only
                  try exact trivial
                clear hK K
                try simp only [Act.put, List.setIfInBounds_toArray, List.set_cons_zero, List.set_cons_succ]
                refine wpAnyH_take (i := 7) (oi := { dst := some 37, op := Go.Op.indexAddr 22 (Go.Operand.tmp 33) (Go.Operand.tmp 36), type := 0, pos := "law.go:79", after := #[{ on := 3, ground := Go.Ground.data }, { on := 6, ground := Go.Ground.data }], guard := none }) (v := .pointer (some ⟨ga, i * 4, none⟩)) rfl (by kernel_rfl) (by kernel_rfl) (by kernel_rfl) (fun _ _ _ h => h) (Or.inl ⟨by rfl, ?_⟩) (by assumption) ?_
                · (intro W hSw; (try dsimp only at hSw); go_simp; try with_reducible rfl)
                try simp only [Act.put, List.setIfInBounds_toArray, List.set_cons_zero, List.set_cons_succ]
                refine wpAnyH_ready (rs := [8]) (by kernel_rfl) (by simp) ?_
                refine AllReadyH.cons (o := { dst := some 38, op := Go.Op.load 28 (Go.Operand.tmp 37), type := 28, pos := "law.go:79", after := #[{ on := 7, ground := Go.Ground.data }], guard := none }) rfl (fun K hK => ?_) ?_
                · go_simp
                  refine hK.out _ _ ?_ (fun hHeld4 => ?_)
                  · try dsimp only
                    try exact trivial
                  clear hK K
                  try simp only [Act.put, List.setIfInBounds_toArray, List.set_cons_zero, List.set_cons_succ]
                  refine wpAnyH_ready (rs := [9]) (by kernel_rfl) (by simp) ?_
                  refine AllReadyH.cons (o := { dst := some 39, op := Go.Op.buildSlice 22 1 #[(0, Go.Operand.tmp 38)], type := 22, pos := "law.go:79", after := #[{ on := 8, ground := Go.Ground.data }], guard := none }) rfl (fun K hK => ?_) ?_
                  · go_simp
                    refine hK.out _ _ ?_ (fun hHeld5 => ?_)
                    · try dsimp only
                      try exact trivial
                    clear hK K
                    try simp only [Act.put, List.setIfInBounds_toArray, List.set_cons_zero, List.set_cons_succ]
                    have hal : Below y5.heap.size y5 (y5.alloc (.cells #[.int .i64 a0.st, .string a0.us, .int .i64 a0.sp, .string a0.nm] 28)) := (Below.refl _ _).alloc (Nat.le_refl _) _
                    have hYa := below_call hYd hal
                    have hQ5 := Lib.hid (hP5.call RJ.stay hal)
                    have hQ6 := Lib.hid (hP6.call RJ.stay hal)
                    have kba := heap_call hal kbd
                    have kca := Blk.cell kba
                    refine wpAnyH_ready (rs := [10]) (by kernel_rfl) (by simp) ?_
                    refine AllReadyH.cons (o := { dst := some 40, op := Go.Op.call { callee := Go.Callee.builtin Go.Builtin.append, args := #[Go.Operand.tmp 31, Go.Operand.tmp 39], argTypes := #[22, 22] }, type := 22, pos := "law.go:79", after := #[{ on := 1, ground := Go.Ground.data }, { on := 9, ground := Go.Ground.data }, { on := 6, ground := Go.Ground.chain }], guard := none }) rfl (fun K hK => ?_) ?_
                    · (refine step_append_r _ rfl (.tmp 31) (.tmp 39) 22 rfl 4 48 yd.heap.size 28 i0 _ RJ.stay (by decide) Tryd.underlying22 hi0 hz0 hz1 hz2 rfl (by omega) B5 m d5 M (by simp [Act.eval, Act.put]) hQ6.out (some ⟨y5.heap.size, 0, none⟩) 1 1 (by simp [Act.eval, Act.put]) [a0] _ (Reads.litAt (cs := #[.int .i64 a0.st, .string a0.us, .int .i64 a0.sp, .string a0.nm]) rfl rfl) (RdJ.lit (t := 0) a0) rfl ?_ ?_ ?_ ?_ ?_; (focus (simp [Value.oneCell'])); (focus (unfold maxLen; omega)); (focus omega); (focus (exact hYa.size)); intro A7 c7 w7 ho7 hg7)
                      refine hK.out _ _ ?_ (fun hHeld6 => ?_)
                      · try dsimp only
                        try exact trivial
                      clear hK K
                      try simp only [Act.put, List.setIfInBounds_toArray, List.set_cons_zero, List.set_cons_succ]
                      have hY7 := hYa.trans hg7.b
                      have kb7 : w7.heap[gb]? = _ := (hg7.g.block gb (Blk.lt kba) (fun e => hB e.symm)).trans kba
                      have kc7 := Blk.cell kb7
                      have kf7 := Blk.frozen kb7
                      have hB7 := OwJ.block_ne ho7 kb7 (by decide)
                      have hR5 := OwJ.grownB hQ5.out hg7 hNe.symm
                      refine wpAnyH_take (i := 11) (oi := { dst := some 41, op := Go.Op.fieldAddr 24 (Go.Operand.tmp 12) 1, type := 0, pos := "law.go:79", after := #[{ on := 0, ground := Go.Ground.phase }, { on := 1, ground := Go.Ground.phase }, { on := 2, ground := Go.Ground.phase }, { on := 3, ground := Go.Ground.phase }, { on := 4, ground := Go.Ground.phase }, { on := 5, ground := Go.Ground.phase }, { on := 6, ground := Go.Ground.phase }, { on := 7, ground := Go.Ground.phase }, { on := 8, ground := Go.Ground.phase }, { on := 9, ground := Go.Ground.phase }, { on := 10, ground := Go.Ground.phase }], guard := none }) (v := .pointer (some ⟨gb, 1, none⟩)) rfl (by kernel_rfl) (by kernel_rfl) (by kernel_rfl) (fun _ _ _ h => h) (Or.inl ⟨by rfl, ?_⟩) (by assumption) ?_
                      · (intro W hSw; (try dsimp only at hSw); go_simp; try with_reducible rfl)
                      try simp only [Act.put, List.setIfInBounds_toArray, List.set_cons_zero, List.set_cons_succ]
                      refine wpAnyH_ready (rs := [12]) (by kernel_rfl) (by simp) ?_
                      refine AllReadyH.cons (o := { dst := none, op := Go.Op.store 22 (Go.Operand.tmp 41) (Go.Operand.tmp 40), type := 0, pos := "law.go:79", after := #[{ on := 11, ground := Go.Ground.data }, { on := 10, ground := Go.Ground.data }, { on := 10, ground := Go.Ground.chain }, { on := 0, ground := Go.Ground.phase }, { on := 1, ground := Go.Ground.phase }, { on := 2, ground := Go.Ground.phase }, { on := 3, ground := Go.Ground.phase }, { on := 4, ground := Go.Ground.phase }, { on := 5, ground := Go.Ground.phase }, { on := 6, ground := Go.Ground.phase }, { on := 7, ground := Go.Ground.phase }, { on := 8, ground := Go.Ground.phase }, { on := 9, ground := Go.Ground.phase }, { on := 10, ground := Go.Ground.phase }], guard := none }) rfl (fun K hK => ?_) ?_
                      · go_simp
                        refine hK.out _ _ ?_ (fun hHeld7 => ?_)
                        · try dsimp only
                          try exact trivial
                        clear hK K
                        try simp only [Act.put, List.setIfInBounds_toArray, List.set_cons_zero, List.set_cons_succ]
                        refine wpAnyH_done (by kernel_rfl) ?_ _
                        have hO7 := OwJ.setN hR5 hA 1 (.slice A7 (m + 1) c7)
                        have hO8 := OwJ.setN ho7 hB7 1 (.slice A7 (m + 1) c7)
                        go_wp2_with fail
                        go_meet
                        exact ⟨L, _, _, n, c5, A7, m + 1, c7, hY7.setCell hgY _, heap_set_near _ _ _ _ _ _ kb7, hO7.rd, hO8.rd, by omega, by omega, HLW.out⟩
                      exact AllReadyH.nil
                    exact AllReadyH.nil
                  exact AllReadyH.nil
                exact AllReadyH.nil
              exact AllReadyH.nil
            refine AllReadyH.cons (o := { dst := some 36, op := Go.Op.call { callee := Go.Callee.value (Go.Operand.func 16), args := #[Go.Operand.tmp 34, Go.Operand.tmp 35], argTypes := #[3, 3] }, type := 3, pos := "law.go:79", after := #[{ on := 4, ground := Go.Ground.data }, { on := 5, ground := Go.Ground.data }], guard := none }) rfl (fun K hK => ?_) ?_
            · go_simp
              (go_at_call 16; refine (HR.out _).mono ?_; rintro e wn ⟨rfl, hwn⟩; obtain rfl := hwn.symm; clear hwn)
              refine hK.out _ _ ?_ (fun hHeld2 => ?_)
              · try dsimp only
                try exact trivial
              clear hK K
              try simp only [Act.put, List.setIfInBounds_toArray, List.set_cons_zero, List.set_cons_succ]
              refine wpAnyH_take (i := 7) (oi := { dst := some 37, op := Go.Op.indexAddr 22 (Go.Operand.tmp 33) (Go.Operand.tmp 36), type := 0, pos := "law.go:79", after := #[{ on := 3, ground := Go.Ground.data }, { on := 6, ground := Go.Ground.data }], guard := none }) (v := .pointer (some ⟨ga, i * 4, none⟩)) rfl (by kernel_rfl) (by kernel_rfl) (by kernel_rfl) (fun _ _ _ h => h) (Or.inl ⟨by rfl, ?_⟩) (by assumption) ?_
              · (intro W hSw; (try dsimp only at hSw); go_simp; try with_reducible rfl)
              try simp only [Act.put, List.setIfInBounds_toArray, List.set_cons_zero, List.set_cons_succ]
              refine wpAnyH_ready (rs := [1, 8]) (by kernel_rfl) (by simp) ?_
              refine AllReadyH.cons (o := { dst := some 31, op := Go.Op.load 22 (Go.Operand.tmp 30), type := 22, pos := "law.go:79", after := #[{ on := 0, ground := Go.Ground.data }], guard := none }) rfl (fun K hK => ?_) ?_
              · go_simp
                refine hK.out _ _ ?_ (fun hHeld3 => ?_)
                · try dsimp only
                  try exact trivial
                clear hK K
                try simp only [Act.put, List.setIfInBounds_toArray, List.set_cons_zero, List.set_cons_succ]
                refine wpAnyH_ready (rs := [8]) (by kernel_rfl) (by simp) ?_
                refine AllReadyH.cons (o := { dst := some 38, op := Go.Op.load 28 (Go.Operand.tmp 37), type := 28, pos := "law.go:79", after := #[{ on := 7, ground := Go.Ground.data }], guard := none }) rfl (fun K hK => ?_) ?_
                · go_simp
                  refine hK.out _ _ ?_ (fun hHeld4 => ?_)
                  · try dsimp only
                    try exact trivial
                  clear hK K
                  try simp only [Act.put, List.setIfInBounds_toArray, List.set_cons_zero, List.set_cons_succ]
                  refine wpAnyH_ready (rs := [9]) (by kernel_rfl) (by simp) ?_
                  refine AllReadyH.cons (o := { dst := some 39, op := Go.Op.buildSlice 22 1 #[(0, Go.Operand.tmp 38)], type := 22, pos := "law.go:79", after := #[{ on := 8, ground := Go.Ground.data }], guard := none }) rfl (fun K hK => ?_) ?_
                  · go_simp
                    refine hK.out _ _ ?_ (fun hHeld5 => ?_)
                    · try dsimp only
                      try exact trivial
                    clear hK K
                    try simp only [Act.put, List.setIfInBounds_toArray, List.set_cons_zero, List.set_cons_succ]
                    have hal : Below y5.heap.size y5 (y5.alloc (.cells #[.int .i64 a0.st, .string a0.us, .int .i64 a0.sp, .string a0.nm] 28)) := (Below.refl _ _).alloc (Nat.le_refl _) _
                    have hYa := below_call hYd hal
                    have hQ5 := Lib.hid (hP5.call RJ.stay hal)
                    have hQ6 := Lib.hid (hP6.call RJ.stay hal)
                    have kba := heap_call hal kbd
                    have kca := Blk.cell kba
                    refine wpAnyH_ready (rs := [10]) (by kernel_rfl) (by simp) ?_
                    refine AllReadyH.cons (o := { dst := some 40, op := Go.Op.call { callee := Go.Callee.builtin Go.Builtin.append, args := #[Go.Operand.tmp 31, Go.Operand.tmp 39], argTypes := #[22, 22] }, type := 22, pos := "law.go:79", after := #[{ on := 1, ground := Go.Ground.data }, { on := 9, ground := Go.Ground.data }, { on := 6, ground := Go.Ground.chain }], guard := none }) rfl (fun K hK => ?_) ?_
                    · (refine step_append_r _ rfl (.tmp 31) (.tmp 39) 22 rfl 4 48 yd.heap.size 28 i0 _ RJ.stay (by decide) Tryd.underlying22 hi0 hz0 hz1 hz2 rfl (by omega) B5 m d5 M (by simp [Act.eval, Act.put]) hQ6.out (some ⟨y5.heap.size, 0, none⟩) 1 1 (by simp [Act.eval, Act.put]) [a0] _ (Reads.litAt (cs := #[.int .i64 a0.st, .string a0.us, .int .i64 a0.sp, .string a0.nm]) rfl rfl) (RdJ.lit (t := 0) a0) rfl ?_ ?_ ?_ ?_ ?_; (focus (simp [Value.oneCell'])); (focus (unfold maxLen; omega)); (focus omega); (focus (exact hYa.size)); intro A7 c7 w7 ho7 hg7)
                      refine hK.out _ _ ?_ (fun hHeld6 => ?_)
                      · try dsimp only
                        try exact trivial
                      clear hK K
                      try simp only [Act.put, List.setIfInBounds_toArray, List.set_cons_zero, List.set_cons_succ]
                      have hY7 := hYa.trans hg7.b
                      have kb7 : w7.heap[gb]? = _ := (hg7.g.block gb (Blk.lt kba) (fun e => hB e.symm)).trans kba
                      have kc7 := Blk.cell kb7
                      have kf7 := Blk.frozen kb7
                      have hB7 := OwJ.block_ne ho7 kb7 (by decide)
                      have hR5 := OwJ.grownB hQ5.out hg7 hNe.symm
                      refine wpAnyH_take (i := 11) (oi := { dst := some 41, op := Go.Op.fieldAddr 24 (Go.Operand.tmp 12) 1, type := 0, pos := "law.go:79", after := #[{ on := 0, ground := Go.Ground.phase }, { on := 1, ground := Go.Ground.phase }, { on := 2, ground := Go.Ground.phase }, { on := 3, ground := Go.Ground.phase }, { on := 4, ground := Go.Ground.phase }, { on := 5, ground := Go.Ground.phase }, { on := 6, ground := Go.Ground.phase }, { on := 7, ground := Go.Ground.phase }, { on := 8, ground := Go.Ground.phase }, { on := 9, ground := Go.Ground.phase }, { on := 10, ground := Go.Ground.phase }], guard := none }) (v := .pointer (some ⟨gb, 1, none⟩)) rfl (by kernel_rfl) (by kernel_rfl) (by kernel_rfl) (fun _ _ _ h => h) (Or.inl ⟨by rfl, ?_⟩) (by assumption) ?_
                      · (intro W hSw; (try dsimp only at hSw); go_simp; try with_reducible rfl)
                      try simp only [Act.put, List.setIfInBounds_toArray, List.set_cons_zero, List.set_cons_succ]
                      refine wpAnyH_ready (rs := [12]) (by kernel_rfl) (by simp) ?_
                      refine AllReadyH.cons (o := { dst := none, op := Go.Op.store 22 (Go.Operand.tmp 41) (Go.Operand.tmp 40), type := 0, pos := "law.go:79", after := #[{ on := 11, ground := Go.Ground.data }, { on := 10, ground := Go.Ground.data }, { on := 10, ground := Go.Ground.chain }, { on := 0, ground := Go.Ground.phase }, { on := 1, ground := Go.Ground.phase }, { on := 2, ground := Go.Ground.phase }, { on := 3, ground := Go.Ground.phase }, { on := 4, ground := Go.Ground.phase }, { on := 5, ground := Go.Ground.phase }, { on := 6, ground := Go.Ground.phase }, { on := 7, ground := Go.Ground.phase }, { on := 8, ground := Go.Ground.phase }, { on := 9, ground := Go.Ground.phase }, { on := 10, ground := Go.Ground.phase }], guard := none }) rfl (fun K hK => ?_) ?_
                      · go_simp
                        refine hK.out _ _ ?_ (fun hHeld7 => ?_)
                        · try dsimp only
                          try exact trivial
                        clear hK K
                        try simp only [Act.put, List.setIfInBounds_toArray, List.set_cons_zero, List.set_cons_succ]
                        refine wpAnyH_done (by kernel_rfl) ?_ _
                        have hO7 := OwJ.setN hR5 hA 1 (.slice A7 (m + 1) c7)
                        have hO8 := OwJ.setN ho7 hB7 1 (.slice A7 (m + 1) c7)
                        go_wp2_with fail
                        go_meet
                        exact ⟨L, _, _, n, c5, A7, m + 1, c7, hY7.setCell hgY _, heap_set_near _ _ _ _ _ _ kb7, hO7.rd, hO8.rd, by omega, by omega, HLW.out⟩
                      exact AllReadyH.nil
                    exact AllReadyH.nil
                  exact AllReadyH.nil
                exact AllReadyH.nil
              refine AllReadyH.cons (o := { dst := some 38, op := Go.Op.load 28 (Go.Operand.tmp 37), type := 28, pos := "law.go:79", after := #[{ on := 7, ground := Go.Ground.data }], guard := none }) rfl (fun K hK => ?_) ?_
              · go_simp
                refine hK.out _ _ ?_ (fun hHeld3 => ?_)
                · try dsimp only
                  try exact trivial
                clear hK K
                try simp only [Act.put, List.setIfInBounds_toArray, List.set_cons_zero, List.set_cons_succ]
                refine wpAnyH_ready (rs := [1, 9]) (by kernel_rfl) (by simp) ?_
                refine AllReadyH.cons (o := { dst := some 31, op := Go.Op.load 22 (Go.Operand.tmp 30), type := 22, pos := "law.go:79", after := #[{ on := 0, ground := Go.Ground.data }], guard := none }) rfl (fun K hK => ?_) ?_
                · go_simp
                  refine hK.out _ _ ?_ (fun hHeld4 => ?_)
                  · try dsimp only
                    try exact trivial
                  clear hK K
                  try simp only [Act.put, List.setIfInBounds_toArray, List.set_cons_zero, List.set_cons_succ]
                  refine wpAnyH_ready (rs := [9]) (by kernel_rfl) (by simp) ?_
                  refine AllReadyH.cons (o := { dst := some 39, op := Go.Op.buildSlice 22 1 #[(0, Go.Operand.tmp 38)], type := 22, pos := "law.go:79", after := #[{ on := 8, ground := Go.Ground.data }], guard := none }) rfl (fun K hK => ?_) ?_
                  · go_simp
                    refine hK.out _ _ ?_ (fun hHeld5 => ?_)
                    · try dsimp only
                      try exact trivial
                    clear hK K
                    try simp only [Act.put, List.setIfInBounds_toArray, List.set_cons_zero, List.set_cons_succ]
                    have hal : Below y5.heap.size y5 (y5.alloc (.cells #[.int .i64 a0.st, .string a0.us, .int .i64 a0.sp, .string a0.nm] 28)) := (Below.refl _ _).alloc (Nat.le_refl _) _
                    have hYa := below_call hYd hal
                    have hQ5 := Lib.hid (hP5.call RJ.stay hal)
                    have hQ6 := Lib.hid (hP6.call RJ.stay hal)
                    have kba := heap_call hal kbd
                    have kca := Blk.cell kba
                    refine wpAnyH_ready (rs := [10]) (by kernel_rfl) (by simp) ?_
                    refine AllReadyH.cons (o := { dst := some 40, op := Go.Op.call { callee := Go.Callee.builtin Go.Builtin.append, args := #[Go.Operand.tmp 31, Go.Operand.tmp 39], argTypes := #[22, 22] }, type := 22, pos := "law.go:79", after := #[{ on := 1, ground := Go.Ground.data }, { on := 9, ground := Go.Ground.data }, { on := 6, ground := Go.Ground.chain }], guard := none }) rfl (fun K hK => ?_) ?_
                    · (refine step_append_r _ rfl (.tmp 31) (.tmp 39) 22 rfl 4 48 yd.heap.size 28 i0 _ RJ.stay (by decide) Tryd.underlying22 hi0 hz0 hz1 hz2 rfl (by omega) B5 m d5 M (by simp [Act.eval, Act.put]) hQ6.out (some ⟨y5.heap.size, 0, none⟩) 1 1 (by simp [Act.eval, Act.put]) [a0] _ (Reads.litAt (cs := #[.int .i64 a0.st, .string a0.us, .int .i64 a0.sp, .string a0.nm]) rfl rfl) (RdJ.lit (t := 0) a0) rfl ?_ ?_ ?_ ?_ ?_; (focus (simp [Value.oneCell'])); (focus (unfold maxLen; omega)); (focus omega); (focus (exact hYa.size)); intro A7 c7 w7 ho7 hg7)
                      refine hK.out _ _ ?_ (fun hHeld6 => ?_)
                      · try dsimp only
                        try exact trivial
                      clear hK K
                      try simp only [Act.put, List.setIfInBounds_toArray, List.set_cons_zero, List.set_cons_succ]
                      have hY7 := hYa.trans hg7.b
                      have kb7 : w7.heap[gb]? = _ := (hg7.g.block gb (Blk.lt kba) (fun e => hB e.symm)).trans kba
                      have kc7 := Blk.cell kb7
                      have kf7 := Blk.frozen kb7
                      have hB7 := OwJ.block_ne ho7 kb7 (by decide)
                      have hR5 := OwJ.grownB hQ5.out hg7 hNe.symm
                      refine wpAnyH_take (i := 11) (oi := { dst := some 41, op := Go.Op.fieldAddr 24 (Go.Operand.tmp 12) 1, type := 0, pos := "law.go:79", after := #[{ on := 0, ground := Go.Ground.phase }, { on := 1, ground := Go.Ground.phase }, { on := 2, ground := Go.Ground.phase }, { on := 3, ground := Go.Ground.phase }, { on := 4, ground := Go.Ground.phase }, { on := 5, ground := Go.Ground.phase }, { on := 6, ground := Go.Ground.phase }, { on := 7, ground := Go.Ground.phase }, { on := 8, ground := Go.Ground.phase }, { on := 9, ground := Go.Ground.phase }, { on := 10, ground := Go.Ground.phase }], guard := none }) (v := .pointer (some ⟨gb, 1, none⟩)) rfl (by kernel_rfl) (by kernel_rfl) (by kernel_rfl) (fun _ _ _ h => h) (Or.inl ⟨by rfl, ?_⟩) (by assumption) ?_
                      · (intro W hSw; (try dsimp only at hSw); go_simp; try with_reducible rfl)
                      try simp only [Act.put, List.setIfInBounds_toArray, List.set_cons_zero, List.set_cons_succ]
                      refine wpAnyH_ready (rs := [12]) (by kernel_rfl) (by simp) ?_
                      refine AllReadyH.cons (o := { dst := none, op := Go.Op.store 22 (Go.Operand.tmp 41) (Go.Operand.tmp 40), type := 0, pos := "law.go:79", after := #[{ on := 11, ground := Go.Ground.data }, { on := 10, ground := Go.Ground.data }, { on := 10, ground := Go.Ground.chain }, { on := 0, ground := Go.Ground.phase }, { on := 1, ground := Go.Ground.phase }, { on := 2, ground := Go.Ground.phase }, { on := 3, ground := Go.Ground.phase }, { on := 4, ground := Go.Ground.phase }, { on := 5, ground := Go.Ground.phase }, { on := 6, ground := Go.Ground.phase }, { on := 7, ground := Go.Ground.phase }, { on := 8, ground := Go.Ground.phase }, { on := 9, ground := Go.Ground.phase }, { on := 10, ground := Go.Ground.phase }], guard := none }) rfl (fun K hK => ?_) ?_
                      · go_simp
                        refine hK.out _ _ ?_ (fun hHeld7 => ?_)
                        · try dsimp only
                          try exact trivial
                        clear hK K
                        try simp only [Act.put, List.setIfInBounds_toArray, List.set_cons_zero, List.set_cons_succ]
                        refine wpAnyH_done (by kernel_rfl) ?_ _
                        have hO7 := OwJ.setN hR5 hA 1 (.slice A7 (m + 1) c7)
                        have hO8 := OwJ.setN ho7 hB7 1 (.slice A7 (m + 1) c7)
                        go_wp2_with fail
                        go_meet
                        exact ⟨L, _, _, n, c5, A7, m + 1, c7, hY7.setCell hgY _, heap_set_near _ _ _ _ _ _ kb7, hO7.rd, hO8.rd, by omega, by omega, HLW.out⟩
                      exact AllReadyH.nil
                    exact AllReadyH.nil
                  exact AllReadyH.nil
                refine AllReadyH.cons (o := { dst := some 39, op := Go.Op.buildSlice 22 1 #[(0, Go.Operand.tmp 38)], type := 22, pos := "law.go:79", after := #[{ on := 8, ground := Go.Ground.data }], guard := none }) rfl (fun K hK => ?_) ?_
                · go_simp
                  refine hK.out _ _ ?_ (fun hHeld4 => ?_)
                  · try dsimp only
                    try exact trivial
                  clear hK K
                  try simp only [Act.put, List.setIfInBounds_toArray, List.set_cons_zero, List.set_cons_succ]
                  have hal : Below y5.heap.size y5 (y5.alloc (.cells #[.int .i64 a0.st, .string a0.us, .int .i64 a0.sp, .string a0.nm] 28)) := (Below.refl _ _).alloc (Nat.le_refl _) _
                  have hYa := below_call hYd hal
                  have hQ5 := Lib.hid (hP5.call RJ.stay hal)
                  have hQ6 := Lib.hid (hP6.call RJ.stay hal)
                  have kba := heap_call hal kbd
                  have kca := Blk.cell kba
                  refine wpAnyH_ready (rs := [1]) (by kernel_rfl) (by simp) ?_
                  refine AllReadyH.cons (o := { dst := some 31, op := Go.Op.load 22 (Go.Operand.tmp 30), type := 22, pos := "law.go:79", after := #[{ on := 0, ground := Go.Ground.data }], guard := none }) rfl (fun K hK => ?_) ?_
                  · go_simp
                    refine hK.out _ _ ?_ (fun hHeld5 => ?_)
                    · try dsimp only
                      try exact trivial
                    clear hK K
                    try simp only [Act.put, List.setIfInBounds_toArray, List.set_cons_zero, List.set_cons_succ]
                    refine wpAnyH_ready (rs := [10]) (by kernel_rfl) (by simp) ?_
                    refine AllReadyH.cons (o := { dst := some 40, op := Go.Op.call { callee := Go.Callee.builtin Go.Builtin.append, args := #[Go.Operand.tmp 31, Go.Operand.tmp 39], argTypes := #[22, 22] }, type := 22, pos := "law.go:79", after := #[{ on := 1, ground := Go.Ground.data }, { on := 9, ground := Go.Ground.data }, { on := 6, ground := Go.Ground.chain }], guard := none }) rfl (fun K hK => ?_) ?_
                    · (refine step_append_r _ rfl (.tmp 31) (.tmp 39) 22 rfl 4 48 yd.heap.size 28 i0 _ RJ.stay (by decide) Tryd.underlying22 hi0 hz0 hz1 hz2 rfl (by omega) B5 m d5 M (by simp [Act.eval, Act.put]) hQ6.out (some ⟨y5.heap.size, 0, none⟩) 1 1 (by simp [Act.eval, Act.put]) [a0] _ (Reads.litAt (cs := #[.int .i64 a0.st, .string a0.us, .int .i64 a0.sp, .string a0.nm]) rfl rfl) (RdJ.lit (t := 0) a0) rfl ?_ ?_ ?_ ?_ ?_; (focus (simp [Value.oneCell'])); (focus (unfold maxLen; omega)); (focus omega); (focus (exact hYa.size)); intro A7 c7 w7 ho7 hg7)
                      refine hK.out _ _ ?_ (fun hHeld6 => ?_)
                      · try dsimp only
                        try exact trivial
                      clear hK K
                      try simp only [Act.put, List.setIfInBounds_toArray, List.set_cons_zero, List.set_cons_succ]
                      have hY7 := hYa.trans hg7.b
                      have kb7 : w7.heap[gb]? = _ := (hg7.g.block gb (Blk.lt kba) (fun e => hB e.symm)).trans kba
                      have kc7 := Blk.cell kb7
                      have kf7 := Blk.frozen kb7
                      have hB7 := OwJ.block_ne ho7 kb7 (by decide)
                      have hR5 := OwJ.grownB hQ5.out hg7 hNe.symm
                      refine wpAnyH_take (i := 11) (oi := { dst := some 41, op := Go.Op.fieldAddr 24 (Go.Operand.tmp 12) 1, type := 0, pos := "law.go:79", after := #[{ on := 0, ground := Go.Ground.phase }, { on := 1, ground := Go.Ground.phase }, { on := 2, ground := Go.Ground.phase }, { on := 3, ground := Go.Ground.phase }, { on := 4, ground := Go.Ground.phase }, { on := 5, ground := Go.Ground.phase }, { on := 6, ground := Go.Ground.phase }, { on := 7, ground := Go.Ground.phase }, { on := 8, ground := Go.Ground.phase }, { on := 9, ground := Go.Ground.phase }, { on := 10, ground := Go.Ground.phase }], guard := none }) (v := .pointer (some ⟨gb, 1, none⟩)) rfl (by kernel_rfl) (by kernel_rfl) (by kernel_rfl) (fun _ _ _ h => h) (Or.inl ⟨by rfl, ?_⟩) (by assumption) ?_
                      · (intro W hSw; (try dsimp only at hSw); go_simp; try with_reducible rfl)
                      try simp only [Act.put, List.setIfInBounds_toArray, List.set_cons_zero, List.set_cons_succ]
                      refine wpAnyH_ready (rs := [12]) (by kernel_rfl) (by simp) ?_
                      refine AllReadyH.cons (o := { dst := none, op := Go.Op.store 22 (Go.Operand.tmp 41) (Go.Operand.tmp 40), type := 0, pos := "law.go:79", after := #[{ on := 11, ground := Go.Ground.data }, { on := 10, ground := Go.Ground.data }, { on := 10, ground := Go.Ground.chain }, { on := 0, ground := Go.Ground.phase }, { on := 1, ground := Go.Ground.phase }, { on := 2, ground := Go.Ground.phase }, { on := 3, ground := Go.Ground.phase }, { on := 4, ground := Go.Ground.phase }, { on := 5, ground := Go.Ground.phase }, { on := 6, ground := Go.Ground.phase }, { on := 7, ground := Go.Ground.phase }, { on := 8, ground := Go.Ground.phase }, { on := 9, ground := Go.Ground.phase }, { on := 10, ground := Go.Ground.phase }], guard := none }) rfl (fun K hK => ?_) ?_
                      · go_simp
                        refine hK.out _ _ ?_ (fun hHeld7 => ?_)
                        · try dsimp only
                          try exact trivial
                        clear hK K
                        try simp only [Act.put, List.setIfInBounds_toArray, List.set_cons_zero, List.set_cons_succ]
                        refine wpAnyH_done (by kernel_rfl) ?_ _
                        have hO7 := OwJ.setN hR5 hA 1 (.slice A7 (m + 1) c7)
                        have hO8 := OwJ.setN ho7 hB7 1 (.slice A7 (m + 1) c7)
                        go_wp2_with fail
                        go_meet
                        exact ⟨L, _, _, n, c5, A7, m + 1, c7, hY7.setCell hgY _, heap_set_near _ _ _ _ _ _ kb7, hO7.rd, hO8.rd, by omega, by omega, HLW.out⟩
                      exact AllReadyH.nil
                    exact AllReadyH.nil
                  exact AllReadyH.nil
                exact AllReadyH.nil
              exact AllReadyH.nil
            exact AllReadyH.nil
          refine AllReadyH.cons (o := { dst := some 36, op := Go.Op.call { callee := Go.Callee.value (Go.Operand.func 16), args := #[Go.Operand.tmp 34, Go.Operand.tmp 35], argTypes := #[3, 3] }, type := 3, pos := "law.go:79", after := #[{ on := 4, ground := Go.Ground.data }, { on := 5, ground := Go.Ground.data }], guard := none }) rfl (fun K hK => ?_) ?_
          · go_simp
            (go_at_call 16; refine (HR.out _).mono ?_; rintro e wn ⟨rfl, hwn⟩; obtain rfl := hwn.symm; clear hwn)
            refine hK.out _ _ ?_ (fun hHeld1 => ?_)
            · try dsimp only
              try exact trivial
            clear hK K
            try simp only [Act.put, List.setIfInBounds_toArray, List.set_cons_zero, List.set_cons_succ]
            refine wpAnyH_ready (rs := [1, 3]) (by kernel_rfl) (by simp) ?_
            refine AllReadyH.cons (o := { dst := some 31, op := Go.Op.load 22 (Go.Operand.tmp 30), type := 22, pos := "law.go:79", after := #[{ on := 0, ground := Go.Ground.data }], guard := none }) rfl (fun K hK => ?_) ?_
            · go_simp
              refine hK.out _ _ ?_ (fun hHeld2 => ?_)
              · try dsimp only
                try exact trivial
              clear hK K
              try simp only [Act.put, List.setIfInBounds_toArray, List.set_cons_zero, List.set_cons_succ]
              refine wpAnyH_ready (rs := [3]) (by kernel_rfl) (by simp) ?_
              refine AllReadyH.cons (o := { dst := some 33, op := Go.Op.load 22 (Go.Operand.tmp 32), type := 22, pos := "law.go:79", after := #[{ on := 2, ground := Go.Ground.data }], guard := none }) rfl (fun K hK => ?_) ?_
              · go_simp
                refine hK.out _ _ ?_ (fun hHeld3 => ?_)
                · try dsimp only
                  try exact trivial
                clear hK K
                try simp only [Act.put, List.setIfInBounds_toArray, List.set_cons_zero, List.set_cons_succ]
                refine wpAnyH_take (i := 7) (oi := { dst := some 37, op := Go.Op.indexAddr 22 (Go.Operand.tmp 33) (Go.Operand.tmp 36), type := 0, pos := "law.go:79", after := #[{ on := 3, ground := Go.Ground.data }, { on := 6, ground := Go.Ground.data }], guard := none }) (v := .pointer (some ⟨ga, i * 4, none⟩)) rfl (by kernel_rfl) (by kernel_rfl) (by kernel_rfl) (fun _ _ _ h => h) (Or.inl ⟨by rfl, ?_⟩) (by assumption) ?_
                · (intro W hSw; (try dsimp only at hSw); go_simp; try with_reducible rfl)
                try simp only [Act.put, List.setIfInBounds_toArray, List.set_cons_zero, List.set_cons_succ]
                refine wpAnyH_ready (rs := [8]) (by kernel_rfl) (by simp) ?_
                refine AllReadyH.cons (o := { dst := some 38, op := Go.Op.load 28 (Go.Operand.tmp 37), type := 28, pos := "law.go:79", after := #[{ on := 7, ground := Go.Ground.data }], guard := none }) rfl (fun K hK => ?_) ?_
                · go_simp
                  refine hK.out _ _ ?_ (fun hHeld4 => ?_)
                  · try dsimp only
                    try exact trivial
                  clear hK K
                  try simp only [Act.put, List.setIfInBounds_toArray, List.set_cons_zero, List.set_cons_succ]
                  refine wpAnyH_ready (rs := [9]) (by kernel_rfl) (by simp) ?_
                  refine AllReadyH.cons (o := { dst := some 39, op := Go.Op.buildSlice 22 1 #[(0, Go.Operand.tmp 38)], type := 22, pos := "law.go:79", after := #[{ on := 8, ground := Go.Ground.data }], guard := none }) rfl (fun K hK => ?_) ?_
                  · go_simp
                    refine hK.out _ _ ?_ (fun hHeld5 => ?_)
                    · try dsimp only
                      try exact trivial
                    clear hK K
                    try simp only [Act.put, List.setIfInBounds_toArray, List.set_cons_zero, List.set_cons_succ]
                    have hal : Below y5.heap.size y5 (y5.alloc (.cells #[.int .i64 a0.st, .string a0.us, .int .i64 a0.sp, .string a0.nm] 28)) := (Below.refl _ _).alloc (Nat.le_refl _) _
                    have hYa := below_call hYd hal
                    have hQ5 := Lib.hid (hP5.call RJ.stay hal)
                    have hQ6 := Lib.hid (hP6.call RJ.stay hal)
                    have kba := heap_call hal kbd
                    have kca := Blk.cell kba
                    refine wpAnyH_ready (rs := [10]) (by kernel_rfl) (by simp) ?_
                    refine AllReadyH.cons (o := { dst := some 40, op := Go.Op.call { callee := Go.Callee.builtin Go.Builtin.append, args := #[Go.Operand.tmp 31, Go.Operand.tmp 39], argTypes := #[22, 22] }, type := 22, pos := "law.go:79", after := #[{ on := 1, ground := Go.Ground.data }, { on := 9, ground := Go.Ground.data }, { on := 6, ground := Go.Ground.chain }], guard := none }) rfl (fun K hK => ?_) ?_
                    · (refine step_append_r _ rfl (.tmp 31) (.tmp 39) 22 rfl 4 48 yd.heap.size 28 i0 _ RJ.stay (by decide) Tryd.underlying22 hi0 hz0 hz1 hz2 rfl (by omega) B5 m d5 M (by simp [Act.eval, Act.put]) hQ6.out (some ⟨y5.heap.size, 0, none⟩) 1 1 (by simp [Act.eval, Act.put]) [a0] _ (Reads.litAt (cs := #[.int .i64 a0.st, .string a0.us, .int .i64 a0.sp, .string a0.nm]) rfl rfl) (RdJ.lit (t := 0) a0) rfl ?_ ?_ ?_ ?_ ?_; (focus (simp [Value.oneCell'])); (focus (unfold maxLen; omega)); (focus omega); (focus (exact hYa.size)); intro A7 c7 w7 ho7 hg7)
                      refine hK.out _ _ ?_ (fun hHeld6 => ?_)
                      · try dsimp only
                        try exact trivial
                      clear hK K
                      try simp only [Act.put, List.setIfInBounds_toArray, List.set_cons_zero, List.set_cons_succ]
                      have hY7 := hYa.trans hg7.b
                      have kb7 : w7.heap[gb]? = _ := (hg7.g.block gb (Blk.lt kba) (fun e => hB e.symm)).trans kba
                      have kc7 := Blk.cell kb7
                      have kf7 := Blk.frozen kb7
                      have hB7 := OwJ.block_ne ho7 kb7 (by decide)
                      have hR5 := OwJ.grownB hQ5.out hg7 hNe.symm
                      refine wpAnyH_take (i := 11) (oi := { dst := some 41, op := Go.Op.fieldAddr 24 (Go.Operand.tmp 12) 1, type := 0, pos := "law.go:79", after := #[{ on := 0, ground := Go.Ground.phase }, { on := 1, ground := Go.Ground.phase }, { on := 2, ground := Go.Ground.phase }, { on := 3, ground := Go.Ground.phase }, { on := 4, ground := Go.Ground.phase }, { on := 5, ground := Go.Ground.phase }, { on := 6, ground := Go.Ground.phase }, { on := 7, ground := Go.Ground.phase }, { on := 8, ground := Go.Ground.phase }, { on := 9, ground := Go.Ground.phase }, { on := 10, ground := Go.Ground.phase }], guard := none }) (v := .pointer (some ⟨gb, 1, none⟩)) rfl (by kernel_rfl) (by kernel_rfl) (by kernel_rfl) (fun _ _ _ h => h) (Or.inl ⟨by rfl, ?_⟩) (by assumption) ?_
                      · (intro W hSw; (try dsimp only at hSw); go_simp; try with_reducible rfl)
                      try simp only [Act.put, List.setIfInBounds_toArray, List.set_cons_zero, List.set_cons_succ]
                      refine wpAnyH_ready (rs := [12]) (by kernel_rfl) (by simp) ?_
                      refine AllReadyH.cons (o := { dst := none, op := Go.Op.store 22 (Go.Operand.tmp 41) (Go.Operand.tmp 40), type := 0, pos := "law.go:79", after := #[{ on := 11, ground := Go.Ground.data }, { on := 10, ground := Go.Ground.data }, { on := 10, ground := Go.Ground.chain }, { on := 0, ground := Go.Ground.phase }, { on := 1, ground := Go.Ground.phase }, { on := 2, ground := Go.Ground.phase }, { on := 3, ground := Go.Ground.phase }, { on := 4, ground := Go.Ground.phase }, { on := 5, ground := Go.Ground.phase }, { on := 6, ground := Go.Ground.phase }, { on := 7, ground := Go.Ground.phase }, { on := 8, ground := Go.Ground.phase }, { on := 9, ground := Go.Ground.phase }, { on := 10, ground := Go.Ground.phase }], guard := none }) rfl (fun K hK => ?_) ?_
                      · go_simp
                        refine hK.out _ _ ?_ (fun hHeld7 => ?_)
                        · try dsimp only
                          try exact trivial
                        clear hK K
                        try simp only [Act.put, List.setIfInBounds_toArray, List.set_cons_zero, List.set_cons_succ]
                        refine wpAnyH_done (by kernel_rfl) ?_ _
                        have hO7 := OwJ.setN hR5 hA 1 (.slice A7 (m + 1) c7)
                        have hO8 := OwJ.setN ho7 hB7 1 (.slice A7 (m + 1) c7)
                        go_wp2_with fail
                        go_meet
                        exact ⟨L, _, _, n, c5, A7, m + 1, c7, hY7.setCell hgY _, heap_set_near _ _ _ _ _ _ kb7, hO7.rd, hO8.rd, by omega, by omega, HLW.out⟩
                      exact AllReadyH.nil
                    exact AllReadyH.nil
                  exact AllReadyH.nil
                exact AllReadyH.nil
              exact AllReadyH.nil
            refine AllReadyH.cons (o := { dst := some 33, op := Go.Op.load 22 (Go.Operand.tmp 32), type := 22, pos := "law.go:79", after := #[{ on := 2, ground := Go.Ground.data }], guard := none }) rfl (fun K hK => ?_) ?_
            · go_simp
              refine hK.out _ _ ?_ (fun hHeld2 => ?_)
              · try dsimp only
                try exact trivial
              clear hK K
              try simp only [Act.put, List.setIfInBounds_toArray, List.set_cons_zero, List.set_cons_succ]
              refine wpAnyH_take (i := 7) (oi := { dst := some 37, op := Go.Op.indexAddr 22 (Go.Operand.tmp 33) (Go.Operand.tmp 36), type := 0, pos := "law.go:79", after := #[{ on := 3, ground := Go.Ground.data }, { on := 6, ground := Go.Ground.data }], guard := none }) (v := .pointer (some ⟨ga, i * 4, none⟩)) rfl (by kernel_rfl) (by kernel_rfl) (by kernel_rfl) (fun _ _ _ h => h) (Or.inl ⟨by rfl, ?_⟩) (by assumption) ?_
              · (intro W hSw; (try dsimp only at hSw); go_simp; try with_reducible rfl)
              try simp only [Act.put, List.setIfInBounds_toArray, List.set_cons_zero, List.set_cons_succ]
              refine wpAnyH_ready (rs := [1, 8]) (by kernel_rfl) (by simp) ?_
              refine AllReadyH.cons (o := { dst := some 31, op := Go.Op.load 22 (Go.Operand.tmp 30), type := 22, pos := "law.go:79", after := #[{ on := 0, ground := Go.Ground.data }], guard := none }) rfl (fun K hK => ?_) ?_
              · go_simp
                refine hK.out _ _ ?_ (fun hHeld3 => ?_)
                · try dsimp only
                  try exact trivial
                clear hK K
                try simp only [Act.put, List.setIfInBounds_toArray, List.set_cons_zero, List.set_cons_succ]
                refine wpAnyH_ready (rs := [8]) (by kernel_rfl) (by simp) ?_
                refine AllReadyH.cons (o := { dst := some 38, op := Go.Op.load 28 (Go.Operand.tmp 37), type := 28, pos := "law.go:79", after := #[{ on := 7, ground := Go.Ground.data }], guard := none }) rfl (fun K hK => ?_) ?_
                · go_simp
                  refine hK.out _ _ ?_ (fun hHeld4 => ?_)
                  · try dsimp only
                    try exact trivial
                  clear hK K
                  try simp only [Act.put, List.setIfInBounds_toArray, List.set_cons_zero, List.set_cons_succ]
                  refine wpAnyH_ready (rs := [9]) (by kernel_rfl) (by simp) ?_
                  refine AllReadyH.cons (o := { dst := some 39, op := Go.Op.buildSlice 22 1 #[(0, Go.Operand.tmp 38)], type := 22, pos := "law.go:79", after := #[{ on := 8, ground := Go.Ground.data }], guard := none }) rfl (fun K hK => ?_) ?_
                  · go_simp
                    refine hK.out _ _ ?_ (fun hHeld5 => ?_)
                    · try dsimp only
                      try exact trivial
                    clear hK K
                    try simp only [Act.put, List.setIfInBounds_toArray, List.set_cons_zero, List.set_cons_succ]
                    have hal : Below y5.heap.size y5 (y5.alloc (.cells #[.int .i64 a0.st, .string a0.us, .int .i64 a0.sp, .string a0.nm] 28)) := (Below.refl _ _).alloc (Nat.le_refl _) _
                    have hYa := below_call hYd hal
                    have hQ5 := Lib.hid (hP5.call RJ.stay hal)
                    have hQ6 := Lib.hid (hP6.call RJ.stay hal)
                    have kba := heap_call hal kbd
                    have kca := Blk.cell kba
                    refine wpAnyH_ready (rs := [10]) (by kernel_rfl) (by simp) ?_
                    refine AllReadyH.cons (o := { dst := some 40, op := Go.Op.call { callee := Go.Callee.builtin Go.Builtin.append, args := #[Go.Operand.tmp 31, Go.Operand.tmp 39], argTypes := #[22, 22] }, type := 22, pos := "law.go:79", after := #[{ on := 1, ground := Go.Ground.data }, { on := 9, ground := Go.Ground.data }, { on := 6, ground := Go.Ground.chain }], guard := none }) rfl (fun K hK => ?_) ?_
                    · (refine step_append_r _ rfl (.tmp 31) (.tmp 39) 22 rfl 4 48 yd.heap.size 28 i0 _ RJ.stay (by decide) Tryd.underlying22 hi0 hz0 hz1 hz2 rfl (by omega) B5 m d5 M (by simp [Act.eval, Act.put]) hQ6.out (some ⟨y5.heap.size, 0, none⟩) 1 1 (by simp [Act.eval, Act.put]) [a0] _ (Reads.litAt (cs := #[.int .i64 a0.st, .string a0.us, .int .i64 a0.sp, .string a0.nm]) rfl rfl) (RdJ.lit (t := 0) a0) rfl ?_ ?_ ?_ ?_ ?_; (focus (simp [Value.oneCell'])); (focus (unfold maxLen; omega)); (focus omega); (focus (exact hYa.size)); intro A7 c7 w7 ho7 hg7)
                      refine hK.out _ _ ?_ (fun hHeld6 => ?_)
                      · try dsimp only
                        try exact trivial
                      clear hK K
                      try simp only [Act.put, List.setIfInBounds_toArray, List.set_cons_zero, List.set_cons_succ]
                      have hY7 := hYa.trans hg7.b
                      have kb7 : w7.heap[gb]? = _ := (hg7.g.block gb (Blk.lt kba) (fun e => hB e.symm)).trans kba
                      have kc7 := Blk.cell kb7
                      have kf7 := Blk.frozen kb7
                      have hB7 := OwJ.block_ne ho7 kb7 (by decide)
                      have hR5 := OwJ.grownB hQ5.out hg7 hNe.symm
                      refine wpAnyH_take (i := 11) (oi := { dst := some 41, op := Go.Op.fieldAddr 24 (Go.Operand.tmp 12) 1, type := 0, pos := "law.go:79", after := #[{ on := 0, ground := Go.Ground.phase }, { on := 1, ground := Go.Ground.phase }, { on := 2, ground := Go.Ground.phase }, { on := 3, ground := Go.Ground.phase }, { on := 4, ground := Go.Ground.phase }, { on := 5, ground := Go.Ground.phase }, { on := 6, ground := Go.Ground.phase }, { on := 7, ground := Go.Ground.phase }, { on := 8, ground := Go.Ground.phase }, { on := 9, ground := Go.Ground.phase }, { on := 10, ground := Go.Ground.phase }], guard := none }) (v := .pointer (some ⟨gb, 1, none⟩)) rfl (by kernel_rfl) (by kernel_rfl) (by kernel_rfl) (fun _ _ _ h => h) (Or.inl ⟨by rfl, ?_⟩) (by assumption) ?_
                      · (intro W hSw; (try dsimp only at hSw); go_simp; try with_reducible rfl)
                      try simp only [Act.put, List.setIfInBounds_toArray, List.set_cons_zero, List.set_cons_succ]
                      refine wpAnyH_ready (rs := [12]) (by kernel_rfl) (by simp) ?_
                      refine AllReadyH.cons (o := { dst := none, op := Go.Op.store 22 (Go.Operand.tmp 41) (Go.Operand.tmp 40), type := 0, pos := "law.go:79", after := #[{ on := 11, ground := Go.Ground.data }, { on := 10, ground := Go.Ground.data }, { on := 10, ground := Go.Ground.chain }, { on := 0, ground := Go.Ground.phase }, { on := 1, ground := Go.Ground.phase }, { on := 2, ground := Go.Ground.phase }, { on := 3, ground := Go.Ground.phase }, { on := 4, ground := Go.Ground.phase }, { on := 5, ground := Go.Ground.phase }, { on := 6, ground := Go.Ground.phase }, { on := 7, ground := Go.Ground.phase }, { on := 8, ground := Go.Ground.phase }, { on := 9, ground := Go.Ground.phase }, { on := 10, ground := Go.Ground.phase }], guard := none }) rfl (fun K hK => ?_) ?_
                      · go_simp
                        refine hK.out _ _ ?_ (fun hHeld7 => ?_)
                        · try dsimp only
                          try exact trivial
                        clear hK K
                        try simp only [Act.put, List.setIfInBounds_toArray, List.set_cons_zero, List.set_cons_succ]
                        refine wpAnyH_done (by kernel_rfl) ?_ _
                        have hO7 := OwJ.setN hR5 hA 1 (.slice A7 (m + 1) c7)
                        have hO8 := OwJ.setN ho7 hB7 1 (.slice A7 (m + 1) c7)
                        go_wp2_with fail
                        go_meet
                        exact ⟨L, _, _, n, c5, A7, m + 1, c7, hY7.setCell hgY _, heap_set_near _ _ _ _ _ _ kb7, hO7.rd, hO8.rd, by omega, by omega, HLW.out⟩
                      exact AllReadyH.nil
                    exact AllReadyH.nil
                  exact AllReadyH.nil
                exact AllReadyH.nil
              refine AllReadyH.cons (o := { dst := some 38, op := Go.Op.load 28 (Go.Operand.tmp 37), type := 28, pos := "law.go:79", after := #[{ on := 7, ground := Go.Ground.data }], guard := none }) rfl (fun K hK => ?_) ?_
              · go_simp
                refine hK.out _ _ ?_ (fun hHeld3 => ?_)
                · try dsimp only
                  try exact trivial
                clear hK K
                try simp only [Act.put, List.setIfInBounds_toArray, List.set_cons_zero, List.set_cons_succ]
                refine wpAnyH_ready (rs := [1, 9]) (by kernel_rfl) (by simp) ?_
                refine AllReadyH.cons (o := { dst := some 31, op := Go.Op.load 22 (Go.Operand.tmp 30), type := 22, pos := "law.go:79", after := #[{ on := 0, ground := Go.Ground.data }], guard := none }) rfl (fun K hK => ?_) ?_
                · go_simp
                  refine hK.out _ _ ?_ (fun hHeld4 => ?_)
                  · try dsimp only
                    try exact trivial
                  clear hK K
                  try simp only [Act.put, List.setIfInBounds_toArray, List.set_cons_zero, List.set_cons_succ]
                  refine wpAnyH_ready (rs := [9]) (by kernel_rfl) (by simp) ?_
                  refine AllReadyH.cons (o := { dst := some 39, op := Go.Op.buildSlice 22 1 #[(0, Go.Operand.tmp 38)], type := 22, pos := "law.go:79", after := #[{ on := 8, ground := Go.Ground.data }], guard := none }) rfl (fun K hK => ?_) ?_
                  · go_simp
                    refine hK.out _ _ ?_ (fun hHeld5 => ?_)
                    · try dsimp only
                      try exact trivial
                    clear hK K
                    try simp only [Act.put, List.setIfInBounds_toArray, List.set_cons_zero, List.set_cons_succ]
                    have hal : Below y5.heap.size y5 (y5.alloc (.cells #[.int .i64 a0.st, .string a0.us, .int .i64 a0.sp, .string a0.nm] 28)) := (Below.refl _ _).alloc (Nat.le_refl _) _
                    have hYa := below_call hYd hal
                    have hQ5 := Lib.hid (hP5.call RJ.stay hal)
                    have hQ6 := Lib.hid (hP6.call RJ.stay hal)
                    have kba := heap_call hal kbd
                    have kca := Blk.cell kba
                    refine wpAnyH_ready (rs := [10]) (by kernel_rfl) (by simp) ?_
                    refine AllReadyH.cons (o := { dst := some 40, op := Go.Op.call { callee := Go.Callee.builtin Go.Builtin.append, args := #[Go.Operand.tmp 31, Go.Operand.tmp 39], argTypes := #[22, 22] }, type := 22, pos := "law.go:79", after := #[{ on := 1, ground := Go.Ground.data }, { on := 9, ground := Go.Ground.data }, { on := 6, ground := Go.Ground.chain }], guard := none }) rfl (fun K hK => ?_) ?_
                    · (refine step_append_r _ rfl (.tmp 31) (.tmp 39) 22 rfl 4 48 yd.heap.size 28 i0 _ RJ.stay (by decide) Tryd.underlying22 hi0 hz0 hz1 hz2 rfl (by omega) B5 m d5 M (by simp [Act.eval, Act.put]) hQ6.out (some ⟨y5.heap.size, 0, none⟩) 1 1 (by simp [Act.eval, Act.put]) [a0] _ (Reads.litAt (cs := #[.int .i64 a0.st, .string a0.us, .int .i64 a0.sp, .string a0.nm]) rfl rfl) (RdJ.lit (t := 0) a0) rfl ?_ ?_ ?_ ?_ ?_; (focus (simp [Value.oneCell'])); (focus (unfold maxLen; omega)); (focus omega); (focus (exact hYa.size)); intro A7 c7 w7 ho7 hg7)
                      refine hK.out _ _ ?_ (fun hHeld6 => ?_)
                      · try dsimp only
                        try exact trivial
                      clear hK K
                      try simp only [Act.put, List.setIfInBounds_toArray, List.set_cons_zero, List.set_cons_succ]
                      have hY7 := hYa.trans hg7.b
                      have kb7 : w7.heap[gb]? = _ := (hg7.g.block gb (Blk.lt kba) (fun e => hB e.symm)).trans kba
                      have kc7 := Blk.cell kb7
                      have kf7 := Blk.frozen kb7
                      have hB7 := OwJ.block_ne ho7 kb7 (by decide)
                      have hR5 := OwJ.grownB hQ5.out hg7 hNe.symm
                      refine wpAnyH_take (i := 11) (oi := { dst := some 41, op := Go.Op.fieldAddr 24 (Go.Operand.tmp 12) 1, type := 0, pos := "law.go:79", after := #[{ on := 0, ground := Go.Ground.phase }, { on := 1, ground := Go.Ground.phase }, { on := 2, ground := Go.Ground.phase }, { on := 3, ground := Go.Ground.phase }, { on := 4, ground := Go.Ground.phase }, { on := 5, ground := Go.Ground.phase }, { on := 6, ground := Go.Ground.phase }, { on := 7, ground := Go.Ground.phase }, { on := 8, ground := Go.Ground.phase }, { on := 9, ground := Go.Ground.phase }, { on := 10, ground := Go.Ground.phase }], guard := none }) (v := .pointer (some ⟨gb, 1, none⟩)) rfl (by kernel_rfl) (by kernel_rfl) (by kernel_rfl) (fun _ _ _ h => h) (Or.inl ⟨by rfl, ?_⟩) (by assumption) ?_
                      · (intro W hSw; (try dsimp only at hSw); go_simp; try with_reducible rfl)
                      try simp only [Act.put, List.setIfInBounds_toArray, List.set_cons_zero, List.set_cons_succ]
                      refine wpAnyH_ready (rs := [12]) (by kernel_rfl) (by simp) ?_
                      refine AllReadyH.cons (o := { dst := none, op := Go.Op.store 22 (Go.Operand.tmp 41) (Go.Operand.tmp 40), type := 0, pos := "law.go:79", after := #[{ on := 11, ground := Go.Ground.data }, { on := 10, ground := Go.Ground.data }, { on := 10, ground := Go.Ground.chain }, { on := 0, ground := Go.Ground.phase }, { on := 1, ground := Go.Ground.phase }, { on := 2, ground := Go.Ground.phase }, { on := 3, ground := Go.Ground.phase }, { on := 4, ground := Go.Ground.phase }, { on := 5, ground := Go.Ground.phase }, { on := 6, ground := Go.Ground.phase }, { on := 7, ground := Go.Ground.phase }, { on := 8, ground := Go.Ground.phase }, { on := 9, ground := Go.Ground.phase }, { on := 10, ground := Go.Ground.phase }], guard := none }) rfl (fun K hK => ?_) ?_
                      · go_simp
                        refine hK.out _ _ ?_ (fun hHeld7 => ?_)
                        · try dsimp only
                          try exact trivial
                        clear hK K
                        try simp only [Act.put, List.setIfInBounds_toArray, List.set_cons_zero, List.set_cons_succ]
                        refine wpAnyH_done (by kernel_rfl) ?_ _
                        have hO7 := OwJ.setN hR5 hA 1 (.slice A7 (m + 1) c7)
                        have hO8 := OwJ.setN ho7 hB7 1 (.slice A7 (m + 1) c7)
                        go_wp2_with fail
                        go_meet
                        exact ⟨L, _, _, n, c5, A7, m + 1, c7, hY7.setCell hgY _, heap_set_near _ _ _ _ _ _ kb7, hO7.rd, hO8.rd, by omega, by omega, HLW.out⟩
                      exact AllReadyH.nil
                    exact AllReadyH.nil
                  exact AllReadyH.nil
                refine AllReadyH.cons (o := { dst := some 39, op := Go.Op.buildSlice 22 1 #[(0, Go.Operand.tmp 38)], type := 22, pos := "law.go:79", after := #[{ on := 8, ground := Go.Ground.data }], guard := none }) rfl (fun K hK => ?_) ?_
                · go_simp
                  refine hK.out _ _ ?_ (fun hHeld4 => ?_)
                  · try dsimp only
                    try exact trivial
                  clear hK K
                  try simp only [Act.put, List.setIfInBounds_toArray, List.set_cons_zero, List.set_cons_succ]
                  have hal : Below y5.heap.size y5 (y5.alloc (.cells #[.int .i64 a0.st, .string a0.us, .int .i64 a0.sp, .string a0.nm] 28)) := (Below.refl _ _).alloc (Nat.le_refl _) _
                  have hYa := below_call hYd hal
                  have hQ5 := Lib.hid (hP5.call RJ.stay hal)
                  have hQ6 := Lib.hid (hP6.call RJ.stay hal)
                  have kba := heap_call hal kbd
                  have kca := Blk.cell kba
                  refine wpAnyH_ready (rs := [1]) (by kernel_rfl) (by simp) ?_
                  refine AllReadyH.cons (o := { dst := some 31, op := Go.Op.load 22 (Go.Operand.tmp 30), type := 22, pos := "law.go:79", after := #[{ on := 0, ground := Go.Ground.data }], guard := none }) rfl (fun K hK => ?_) ?_
                  · go_simp
                    refine hK.out _ _ ?_ (fun hHeld5 => ?_)
                    · try dsimp only
                      try exact trivial
                    clear hK K
                    try simp only [Act.put, List.setIfInBounds_toArray, List.set_cons_zero, List.set_cons_succ]
                    refine wpAnyH_ready (rs := [10]) (by kernel_rfl) (by simp) ?_
                    refine AllReadyH.cons (o := { dst := some 40, op := Go.Op.call { callee := Go.Callee.builtin Go.Builtin.append, args := #[Go.Operand.tmp 31, Go.Operand.tmp 39], argTypes := #[22, 22] }, type := 22, pos := "law.go:79", after := #[{ on := 1, ground := Go.Ground.data }, { on := 9, ground := Go.Ground.data }, { on := 6, ground := Go.Ground.chain }], guard := none }) rfl (fun K hK => ?_) ?_
                    · (refine step_append_r _ rfl (.tmp 31) (.tmp 39) 22 rfl 4 48 yd.heap.size 28 i0 _ RJ.stay (by decide) Tryd.underlying22 hi0 hz0 hz1 hz2 rfl (by omega) B5 m d5 M (by simp [Act.eval, Act.put]) hQ6.out (some ⟨y5.heap.size, 0, none⟩) 1 1 (by simp [Act.eval, Act.put]) [a0] _ (Reads.litAt (cs := #[.int .i64 a0.st, .string a0.us, .int .i64 a0.sp, .string a0.nm]) rfl rfl) (RdJ.lit (t := 0) a0) rfl ?_ ?_ ?_ ?_ ?_; (focus (simp [Value.oneCell'])); (focus (unfold maxLen; omega)); (focus omega); (focus (exact hYa.size)); intro A7 c7 w7 ho7 hg7)
                      refine hK.out _ _ ?_ (fun hHeld6 => ?_)
                      · try dsimp only
                        try exact trivial
                      clear hK K
                      try simp only [Act.put, List.setIfInBounds_toArray, List.set_cons_zero, List.set_cons_succ]
                      have hY7 := hYa.trans hg7.b
                      have kb7 : w7.heap[gb]? = _ := (hg7.g.block gb (Blk.lt kba) (fun e => hB e.symm)).trans kba
                      have kc7 := Blk.cell kb7
                      have kf7 := Blk.frozen kb7
                      have hB7 := OwJ.block_ne ho7 kb7 (by decide)
                      have hR5 := OwJ.grownB hQ5.out hg7 hNe.symm
                      refine wpAnyH_take (i := 11) (oi := { dst := some 41, op := Go.Op.fieldAddr 24 (Go.Operand.tmp 12) 1, type := 0, pos := "law.go:79", after := #[{ on := 0, ground := Go.Ground.phase }, { on := 1, ground := Go.Ground.phase }, { on := 2, ground := Go.Ground.phase }, { on := 3, ground := Go.Ground.phase }, { on := 4, ground := Go.Ground.phase }, { on := 5, ground := Go.Ground.phase }, { on := 6, ground := Go.Ground.phase }, { on := 7, ground := Go.Ground.phase }, { on := 8, ground := Go.Ground.phase }, { on := 9, ground := Go.Ground.phase }, { on := 10, ground := Go.Ground.phase }], guard := none }) (v := .pointer (some ⟨gb, 1, none⟩)) rfl (by kernel_rfl) (by kernel_rfl) (by kernel_rfl) (fun _ _ _ h => h) (Or.inl ⟨by rfl, ?_⟩) (by assumption) ?_
                      · (intro W hSw; (try dsimp only at hSw); go_simp; try with_reducible rfl)
                      try simp only [Act.put, List.setIfInBounds_toArray, List.set_cons_zero, List.set_cons_succ]
                      refine wpAnyH_ready (rs := [12]) (by kernel_rfl) (by simp) ?_
                      refine AllReadyH.cons (o := { dst := none, op := Go.Op.store 22 (Go.Operand.tmp 41) (Go.Operand.tmp 40), type := 0, pos := "law.go:79", after := #[{ on := 11, ground := Go.Ground.data }, { on := 10, ground := Go.Ground.data }, { on := 10, ground := Go.Ground.chain }, { on := 0, ground := Go.Ground.phase }, { on := 1, ground := Go.Ground.phase }, { on := 2, ground := Go.Ground.phase }, { on := 3, ground := Go.Ground.phase }, { on := 4, ground := Go.Ground.phase }, { on := 5, ground := Go.Ground.phase }, { on := 6, ground := Go.Ground.phase }, { on := 7, ground := Go.Ground.phase }, { on := 8, ground := Go.Ground.phase }, { on := 9, ground := Go.Ground.phase }, { on := 10, ground := Go.Ground.phase }], guard := none }) rfl (fun K hK => ?_) ?_
                      · go_simp
                        refine hK.out _ _ ?_ (fun hHeld7 => ?_)
                        · try dsimp only
                          try exact trivial
                        clear hK K
                        try simp only [Act.put, List.setIfInBounds_toArray, List.set_cons_zero, List.set_cons_succ]
                        refine wpAnyH_done (by kernel_rfl) ?_ _
                        have hO7 := OwJ.setN hR5 hA 1 (.slice A7 (m + 1) c7)
                        have hO8 := OwJ.setN ho7 hB7 1 (.slice A7 (m + 1) c7)
                        go_wp2_with fail
                        go_meet
                        exact ⟨L, _, _, n, c5, A7, m + 1, c7, hY7.setCell hgY _, heap_set_near _ _ _ _ _ _ kb7, hO7.rd, hO8.rd, by omega, by omega, HLW.out⟩
                      exact AllReadyH.nil
                    exact AllReadyH.nil
                  exact AllReadyH.nil
                exact AllReadyH.nil
              exact AllReadyH.nil
            exact AllReadyH.nil
          exact AllReadyH.nil
      case rest =>
        have hK : KF yd gb wc := hcut
        obtain ⟨wk, rfl⟩ : ∃ q, q = wc := ⟨_, rfl⟩
        clear hO5 hO6 hNe hA hB kb hY hgY HR HRB hga0 hga1 hgab z1 hn0 hin hk0 hk1
        obtain ⟨LK, MK, A6, n6, c6, B6, m6, d6, hYk, kbk, hLk, hMk, hn6, hm6, hwk⟩ := hK
        have hbk : Below wk.heap.size wk wk.drew := below_drewN (Below.refl _ _) 1
        have hYd := below_call hYk hbk
        have hb0d := below_call hb0y hYd
        have kqd := heap_call hYd kq
        have kjd := heap_call hYd kj
        have kbd := heap_call hbk kbk
        have HLq := Lib.hid (RdJ.below hLd hYd)
        have HMq := Lib.hid (RdJ.below hMd hYd)
        have HLk := Lib.hid (RdJ.below hLk hbk)
        have HMk := Lib.hid (RdJ.below hMk hbk)
        clear hLk hMk kbk hYk hbk hYd
        go_upto_region 13 with fail
        have hKK : Hid (∀ W, Below wk.drew.heap.size wk.drew W → W.cell? ⟨gq, 0, none⟩ = some (.slice A n c) ∧ W.cell? ⟨gq, 1, none⟩ = some (.slice B m d) ∧ W.cell? ⟨gb, 0, none⟩ = some (.slice A6 n6 c6) ∧ W.cell? ⟨gb, 1, none⟩ = some (.slice B6 m6 d6) ∧ W.cell? ⟨w.heap.size, 0, none⟩ = some (.int .i64 j.st) ∧ W.cell? ⟨w.heap.size, 1, none⟩ = some (.string j.us) ∧ W.cell? ⟨w.heap.size, 2, none⟩ = some (.int .i64 j.sp) ∧ W.cell? ⟨w.heap.size, 3, none⟩ = some (.string j.nm)) := Lib.hid fun W hW => ⟨Blk.cell (heap_call hW kqd) 0, Blk.cell (heap_call hW kqd) 1, Blk.cell (heap_call hW kbd) 0, Blk.cell (heap_call hW kbd) 1, Blk.cell (heap_call hW kjd) 0, Blk.cell (heap_call hW kjd) 1, Blk.cell (heap_call hW kjd) 2, Blk.cell (heap_call hW kjd) 3⟩
        have HCQ : Hid (∀ (a : Jb) (W : World), Below wk.drew.heap.size wk.drew W → Calls Tryd.prog 12 #[.agg #[.slice A n c, .slice B m d], a.val] W fun e w' => e = .returned (.bool true) ∧ Below W.heap.size W w') := Lib.hid fun a W hW => compares_any A n c L B m d M a x W (RdJ.below HLq.out hW) (RdJ.below HMq.out hW) (HX.out W (below_call hb0d hW)) (by omega) (by omega) (fun b hb => (hLj b hb).wf)
        have HCK : Hid (∀ (a : Jb) (W : World), Below wk.drew.heap.size wk.drew W → Calls Tryd.prog 12 #[.agg #[.slice A6 n6 c6, .slice B6 m6 d6], a.val] W fun e w' => e = .returned (.bool true) ∧ Below W.heap.size W w') := Lib.hid fun a W hW => compares_any A6 n6 c6 LK B6 m6 d6 MK a x W (RdJ.below HLk.out hW) (RdJ.below HMk.out hW) (HX.out W (below_call hb0d hW)) (by omega) (by omega) hwk
        have HCJ := Lib.hid (HCQ.out j)
        unfold Jb.val at HCJ
        have HVQ : Hid (∀ W : World, Below wk.drew.heap.size wk.drew W → Calls Tryd.prog 17 #[.agg #[.slice A n c, .slice B m d]] W fun e w' => e = .returned (.bool true) ∧ Below W.heap.size W w') := Lib.hid fun W hW => by
          have := valid_any A n c L B m d M x W (RdJ.below HLq.out hW) (RdJ.below HMq.out hW) (HX.out W (below_call hb0d hW)) (fun b hb => (hLj b hb).wf)
          rw [qv_trueM hLj hMj hnd] at this
          exact this
        have HAK := Lib.hid fun (W : World) (hW : Below wk.drew.heap.size wk.drew W) => HAW.out W (below_call hb0d hW)
        have HRK := Lib.hid fun (W : World) (hW : Below wk.drew.heap.size wk.drew W) => HR2.out W (below_call hb0d hW)
        have hY0 : Below wk.drew.heap.size wk.drew wk.drew := Below.refl _ _
        refine wp_region_held_drew (S := fun W => W.cell? ⟨gq, 0, none⟩ = some (.slice A n c) ∧ W.cell? ⟨gq, 1, none⟩ = some (.slice B m d) ∧ W.cell? ⟨gb, 0, none⟩ = some (.slice A6 n6 c6) ∧ W.cell? ⟨gb, 1, none⟩ = some (.slice B6 m6 d6) ∧ W.cell? ⟨w.heap.size, 0, none⟩ = some (.int .i64 j.st) ∧ W.cell? ⟨w.heap.size, 1, none⟩ = some (.string j.us) ∧ W.cell? ⟨w.heap.size, 2, none⟩ = some (.int .i64 j.sp) ∧ W.cell? ⟨w.heap.size, 3, none⟩ = some (.string j.nm)) (by kernel_rfl) ?_ (fun hHeld0 => ?_)
        · exact hKK.out _ (Below.refl _ _)
        clear hHeld0
        generalize wk.drew = wd at *
        have hHeld0 := hKK.out wd (Below.refl _ _)
        refine wpAnyH_ready (rs := [0]) (by kernel_rfl) (by simp) ?_
        refine AllReadyH.cons (o := { dst := some 78, op := Go.Op.call { callee := Go.Callee.value (Go.Operand.func 11), args := #[], argTypes := #[] }, type := 4, pos := "law.go:82", after := #[], guard := none }) rfl (fun K hK => ?_) ?_
        · go_simp
          (go_at_call 11; refine (HAK.out _ hY0).mono ?_; rintro e v0 ⟨rfl, hq0⟩; have hY0_ := below_call hY0 hq0; clear hq0)
          refine hK.out _ _ ?_ (fun hHeld1 => ?_)
          · try dsimp only
            exact hKK.out _ hY0_
          clear hK K
          try simp only [Act.put, List.setIfInBounds_toArray, List.set_cons_zero, List.set_cons_succ]
          refine wpAnyH_take (i := 1) (oi := { dst := some 79, op := Go.Op.move (Go.Operand.tmp 78), type := 4, pos := "law.go:82", after := #[{ on := 0, ground := Go.Ground.data }, { on := 0, ground := Go.Ground.chain }], guard := none }) (v := .bool true) rfl (by kernel_rfl) (by kernel_rfl) (by kernel_rfl) (fun _ _ _ h => h) (Or.inl ⟨by rfl, ?_⟩) (by assumption) ?_
          · (intro W hSw; (try dsimp only at hSw); go_simp; try with_reducible rfl)
          try simp only [Act.put, List.setIfInBounds_toArray, List.set_cons_zero, List.set_cons_succ]
          refine wpAnyH_take (i := 2) (oi := { dst := some 80, op := Go.Op.load 24 (Go.Operand.tmp 11), type := 24, pos := "law.go:82", after := #[{ on := 1, ground := Go.Ground.guard }], guard := some (1, true) }) (v := .agg #[.slice A n c, .slice B m d]) rfl (by kernel_rfl) (by kernel_rfl) (by kernel_rfl) (fun _ _ _ h => h) (Or.inl ⟨by rfl, ?_⟩) (by assumption) ?_
          · (intro W hSw; (try dsimp only at hSw); go_simp; try with_reducible rfl)
          try simp only [Act.put, List.setIfInBounds_toArray, List.set_cons_zero, List.set_cons_succ]
          refine wpAnyH_take (i := 3) (oi := { dst := some 81, op := Go.Op.move (Go.Operand.tmp 1), type := 29, pos := "law.go:82", after := #[{ on := 1, ground := Go.Ground.guard }], guard := some (1, true) }) (v := .slice A2 n2 c2) rfl (by kernel_rfl) (by kernel_rfl) (by kernel_rfl) (fun _ _ _ h => h) (Or.inl ⟨by rfl, ?_⟩) (by assumption) ?_
          · (intro W hSw; (try dsimp only at hSw); go_simp; try with_reducible rfl)
          try simp only [Act.put, List.setIfInBounds_toArray, List.set_cons_zero, List.set_cons_succ]
          refine wpAnyH_ready (rs := [4]) (by kernel_rfl) (by simp) ?_
          refine AllReadyH.cons (o := { dst := some 82, op := Go.Op.call { callee := Go.Callee.value (Go.Operand.func 14), args := #[Go.Operand.tmp 81], argTypes := #[29] }, type := 34, pos := "law.go:82", after := #[{ on := 3, ground := Go.Ground.data }, { on := 1, ground := Go.Ground.chain }, { on := 1, ground := Go.Ground.guard }], guard := some (1, true) }) rfl (fun K hK => ?_) ?_
          · go_simp
            (go_at_call 14; refine (from_any A2 n2 c2 zs2 v0 (HRK.out _ hY0_)).mono ?_; rintro e v4 ⟨vv4, rfl, ⟨g4, rfl, hg4, hs4⟩, hq4⟩; have hY4_ := below_call hY0_ hq4; have HRN4 := Lib.hid (HRK.out _ hY0_))
            refine hK.out _ _ ?_ (fun hHeld2 => ?_)
            · try dsimp only
              exact hKK.out _ hY4_
            clear hK K
            try simp only [Act.put, List.setIfInBounds_toArray, List.set_cons_zero, List.set_cons_succ]
            refine wpAnyH_ready (rs := [5]) (by kernel_rfl) (by simp) ?_
            refine AllReadyH.cons (o := { dst := some 83, op := Go.Op.call { callee := Go.Callee.value (Go.Operand.func 13), args := #[Go.Operand.tmp 82], argTypes := #[34] }, type := 28, pos := "law.go:82", after := #[{ on := 4, ground := Go.Ground.data }, { on := 4, ground := Go.Ground.chain }, { on := 1, ground := Go.Ground.guard }], guard := some (1, true) }) rfl (fun K hK => ?_) ?_
            · go_simp
              (go_at_call 13; refine (job_any v0 g4 A2 n2 c2 zs2 v4 HRN4.out hq4 hg4 hs4).mono ?_; rintro e v5 ⟨jj5, hjj5, rfl, hs5, hgr5⟩; have hq5b := below_grown hq4 hq4.size hgr5 hg4; have hY5_ := below_call hY0_ hq5b; clear hjj5 hs5 hgr5 hq5b hq4 hs4 hg4 HRN4 hY4_)
              refine hK.out _ _ ?_ (fun hHeld3 => ?_)
              · try dsimp only
                exact hKK.out _ hY5_
              clear hK K
              try simp only [Act.put, List.setIfInBounds_toArray, List.set_cons_zero, List.set_cons_succ]
              refine wpAnyH_ready (rs := [6]) (by kernel_rfl) (by simp) ?_
              refine AllReadyH.cons (o := { dst := some 84, op := Go.Op.call { callee := Go.Callee.value (Go.Operand.func 12), args := #[Go.Operand.tmp 80, Go.Operand.tmp 83], argTypes := #[24, 28] }, type := 4, pos := "law.go:82", after := #[{ on := 2, ground := Go.Ground.data }, { on := 5, ground := Go.Ground.data }, { on := 5, ground := Go.Ground.chain }, { on := 1, ground := Go.Ground.guard }], guard := some (1, true) }) rfl (fun K hK => ?_) ?_
              · go_simp
                (go_at_call 12; refine (HCQ.out jj5 _ hY5_).mono ?_; rintro e v6 ⟨rfl, hq6⟩; have hY6_ := below_call hY5_ hq6; clear hq6)
                refine hK.out _ _ ?_ (fun hHeld4 => ?_)
                · try dsimp only
                  exact hKK.out _ hY6_
                clear hK K
                try simp only [Act.put, List.setIfInBounds_toArray, List.set_cons_zero, List.set_cons_succ]
                refine wpAnyH_take (i := 7) (oi := { dst := some 85, op := Go.Op.pick (Go.Operand.tmp 79) (Go.Operand.tmp 84) (Go.Operand.const (Go.Value.bool false)), type := 4, pos := "law.go:82", after := #[{ on := 1, ground := Go.Ground.data }, { on := 6, ground := Go.Ground.data }], guard := none }) (v := .bool true) rfl (by kernel_rfl) (by kernel_rfl) (by kernel_rfl) (fun _ _ _ h => h) (Or.inl ⟨by rfl, ?_⟩) (by assumption) ?_
                · (intro W hSw; (try dsimp only at hSw); go_simp; try with_reducible rfl)
                try simp only [Act.put, List.setIfInBounds_toArray, List.set_cons_zero, List.set_cons_succ]
                refine wpAnyH_take (i := 8) (oi := { dst := some 86, op := Go.Op.move (Go.Operand.tmp 85), type := 4, pos := "law.go:82", after := #[{ on := 7, ground := Go.Ground.data }, { on := 6, ground := Go.Ground.chain }], guard := none }) (v := .bool true) rfl (by kernel_rfl) (by kernel_rfl) (by kernel_rfl) (fun _ _ _ h => h) (Or.inl ⟨by rfl, ?_⟩) (by assumption) ?_
                · (intro W hSw; (try dsimp only at hSw); go_simp; try with_reducible rfl)
                try simp only [Act.put, List.setIfInBounds_toArray, List.set_cons_zero, List.set_cons_succ]
                refine wpAnyH_take (i := 9) (oi := { dst := some 87, op := Go.Op.load 24 (Go.Operand.tmp 12), type := 24, pos := "law.go:82", after := #[{ on := 8, ground := Go.Ground.guard }], guard := some (8, true) }) (v := .agg #[.slice A6 n6 c6, .slice B6 m6 d6]) rfl (by kernel_rfl) (by kernel_rfl) (by kernel_rfl) (fun _ _ _ h => h) (Or.inl ⟨by rfl, ?_⟩) (by assumption) ?_
                · (intro W hSw; (try dsimp only at hSw); go_simp; try with_reducible rfl)
                try simp only [Act.put, List.setIfInBounds_toArray, List.set_cons_zero, List.set_cons_succ]
                refine wpAnyH_take (i := 10) (oi := { dst := some 88, op := Go.Op.move (Go.Operand.tmp 1), type := 29, pos := "law.go:82", after := #[{ on := 8, ground := Go.Ground.guard }], guard := some (8, true) }) (v := .slice A2 n2 c2) rfl (by kernel_rfl) (by kernel_rfl) (by kernel_rfl) (fun _ _ _ h => h) (Or.inl ⟨by rfl, ?_⟩) (by assumption) ?_
                · (intro W hSw; (try dsimp only at hSw); go_simp; try with_reducible rfl)
                try simp only [Act.put, List.setIfInBounds_toArray, List.set_cons_zero, List.set_cons_succ]
                refine wpAnyH_ready (rs := [11]) (by kernel_rfl) (by simp) ?_
                refine AllReadyH.cons (o := { dst := some 89, op := Go.Op.call { callee := Go.Callee.value (Go.Operand.func 14), args := #[Go.Operand.tmp 88], argTypes := #[29] }, type := 34, pos := "law.go:82", after := #[{ on := 10, ground := Go.Ground.data }, { on := 8, ground := Go.Ground.chain }, { on := 8, ground := Go.Ground.guard }], guard := some (8, true) }) rfl (fun K hK => ?_) ?_
                · go_simp
                  (go_at_call 14; refine (from_any A2 n2 c2 zs2 v6 (HRK.out _ hY6_)).mono ?_; rintro e v11 ⟨vv11, rfl, ⟨g11, rfl, hg11, hs11⟩, hq11⟩; have hY11_ := below_call hY6_ hq11; have HRN11 := Lib.hid (HRK.out _ hY6_))
                  refine hK.out _ _ ?_ (fun hHeld5 => ?_)
                  · try dsimp only
                    exact hKK.out _ hY11_
                  clear hK K
                  try simp only [Act.put, List.setIfInBounds_toArray, List.set_cons_zero, List.set_cons_succ]
                  refine wpAnyH_ready (rs := [12]) (by kernel_rfl) (by simp) ?_
                  refine AllReadyH.cons (o := { dst := some 90, op := Go.Op.call { callee := Go.Callee.value (Go.Operand.func 13), args := #[Go.Operand.tmp 89], argTypes := #[34] }, type := 28, pos := "law.go:82", after := #[{ on := 11, ground := Go.Ground.data }, { on := 11, ground := Go.Ground.chain }, { on := 8, ground := Go.Ground.guard }], guard := some (8, true) }) rfl (fun K hK => ?_) ?_
                  · go_simp
                    (go_at_call 13; refine (job_any v6 g11 A2 n2 c2 zs2 v11 HRN11.out hq11 hg11 hs11).mono ?_; rintro e v12 ⟨jj12, hjj12, rfl, hs12, hgr12⟩; have hq12b := below_grown hq11 hq11.size hgr12 hg11; have hY12_ := below_call hY6_ hq12b; clear hjj12 hs12 hgr12 hq12b hq11 hs11 hg11 HRN11 hY11_)
                    refine hK.out _ _ ?_ (fun hHeld6 => ?_)
                    · try dsimp only
                      exact hKK.out _ hY12_
                    clear hK K
                    try simp only [Act.put, List.setIfInBounds_toArray, List.set_cons_zero, List.set_cons_succ]
                    refine wpAnyH_ready (rs := [13]) (by kernel_rfl) (by simp) ?_
                    refine AllReadyH.cons (o := { dst := some 91, op := Go.Op.call { callee := Go.Callee.value (Go.Operand.func 12), args := #[Go.Operand.tmp 87, Go.Operand.tmp 90], argTypes := #[24, 28] }, type := 4, pos := "law.go:82", after := #[{ on := 9, ground := Go.Ground.data }, { on := 12, ground := Go.Ground.data }, { on := 12, ground := Go.Ground.chain }, { on := 8, ground := Go.Ground.guard }], guard := some (8, true) }) rfl (fun K hK => ?_) ?_
                    · go_simp
                      (go_at_call 12; refine (HCK.out jj12 _ hY12_).mono ?_; rintro e v13 ⟨rfl, hq13⟩; have hY13_ := below_call hY12_ hq13; clear hq13)
                      refine hK.out _ _ ?_ (fun hHeld7 => ?_)
                      · try dsimp only
                        exact hKK.out _ hY13_
                      clear hK K
                      try simp only [Act.put, List.setIfInBounds_toArray, List.set_cons_zero, List.set_cons_succ]
                      refine wpAnyH_take (i := 14) (oi := { dst := some 92, op := Go.Op.pick (Go.Operand.tmp 86) (Go.Operand.tmp 91) (Go.Operand.const (Go.Value.bool false)), type := 4, pos := "law.go:82", after := #[{ on := 8, ground := Go.Ground.data }, { on := 13, ground := Go.Ground.data }], guard := none }) (v := .bool true) rfl (by kernel_rfl) (by kernel_rfl) (by kernel_rfl) (fun _ _ _ h => h) (Or.inl ⟨by rfl, ?_⟩) (by assumption) ?_
                      · (intro W hSw; (try dsimp only at hSw); go_simp; try with_reducible rfl)
                      try simp only [Act.put, List.setIfInBounds_toArray, List.set_cons_zero, List.set_cons_succ]
                      refine wpAnyH_take (i := 15) (oi := { dst := some 93, op := Go.Op.move (Go.Operand.tmp 92), type := 4, pos := "law.go:82", after := #[{ on := 14, ground := Go.Ground.data }, { on := 13, ground := Go.Ground.chain }], guard := none }) (v := .bool true) rfl (by kernel_rfl) (by kernel_rfl) (by kernel_rfl) (fun _ _ _ h => h) (Or.inl ⟨by rfl, ?_⟩) (by assumption) ?_
                      · (intro W hSw; (try dsimp only at hSw); go_simp; try with_reducible rfl)
                      try simp only [Act.put, List.setIfInBounds_toArray, List.set_cons_zero, List.set_cons_succ]
                      refine wpAnyH_take (i := 16) (oi := { dst := some 94, op := Go.Op.load 24 (Go.Operand.tmp 11), type := 24, pos := "law.go:82", after := #[{ on := 15, ground := Go.Ground.guard }], guard := some (15, true) }) (v := .agg #[.slice A n c, .slice B m d]) rfl (by kernel_rfl) (by kernel_rfl) (by kernel_rfl) (fun _ _ _ h => h) (Or.inl ⟨by rfl, ?_⟩) (by assumption) ?_
                      · (intro W hSw; (try dsimp only at hSw); go_simp; try with_reducible rfl)
                      try simp only [Act.put, List.setIfInBounds_toArray, List.set_cons_zero, List.set_cons_succ]
                      refine wpAnyH_take (i := 17) (oi := { dst := some 95, op := Go.Op.load 28 (Go.Operand.tmp 7), type := 28, pos := "law.go:82", after := #[{ on := 15, ground := Go.Ground.guard }], guard := some (15, true) }) (v := .agg #[.int .i64 j.st, .string j.us, .int .i64 j.sp, .string j.nm]) rfl (by kernel_rfl) (by kernel_rfl) (by kernel_rfl) (fun _ _ _ h => h) (Or.inl ⟨by rfl, ?_⟩) (by assumption) ?_
                      · (intro W hSw; (try dsimp only at hSw); go_simp; try with_reducible rfl)
                      try simp only [Act.put, List.setIfInBounds_toArray, List.set_cons_zero, List.set_cons_succ]
                      refine wpAnyH_ready (rs := [18]) (by kernel_rfl) (by simp) ?_
                      refine AllReadyH.cons (o := { dst := some 96, op := Go.Op.call { callee := Go.Callee.value (Go.Operand.func 12), args := #[Go.Operand.tmp 94, Go.Operand.tmp 95], argTypes := #[24, 28] }, type := 4, pos := "law.go:82", after := #[{ on := 16, ground := Go.Ground.data }, { on := 17, ground := Go.Ground.data }, { on := 15, ground := Go.Ground.chain }, { on := 15, ground := Go.Ground.guard }], guard := some (15, true) }) rfl (fun K hK => ?_) ?_
                      · go_simp
                        (go_at_call 12; refine (HCJ.out _ hY13_).mono ?_; rintro e v18 ⟨rfl, hq18⟩; have hY18_ := below_call hY13_ hq18; clear hq18)
                        refine hK.out _ _ ?_ (fun hHeld8 => ?_)
                        · try dsimp only
                          exact hKK.out _ hY18_
                        clear hK K
                        try simp only [Act.put, List.setIfInBounds_toArray, List.set_cons_zero, List.set_cons_succ]
                        refine wpAnyH_take (i := 19) (oi := { dst := some 97, op := Go.Op.pick (Go.Operand.tmp 93) (Go.Operand.tmp 96) (Go.Operand.const (Go.Value.bool false)), type := 4, pos := "law.go:82", after := #[{ on := 15, ground := Go.Ground.data }, { on := 18, ground := Go.Ground.data }], guard := none }) (v := .bool true) rfl (by kernel_rfl) (by kernel_rfl) (by kernel_rfl) (fun _ _ _ h => h) (Or.inl ⟨by rfl, ?_⟩) (by assumption) ?_
                        · (intro W hSw; (try dsimp only at hSw); go_simp; try with_reducible rfl)
                        try simp only [Act.put, List.setIfInBounds_toArray, List.set_cons_zero, List.set_cons_succ]
                        refine wpAnyH_take (i := 20) (oi := { dst := some 98, op := Go.Op.move (Go.Operand.tmp 97), type := 4, pos := "law.go:82", after := #[{ on := 19, ground := Go.Ground.data }, { on := 18, ground := Go.Ground.chain }], guard := none }) (v := .bool true) rfl (by kernel_rfl) (by kernel_rfl) (by kernel_rfl) (fun _ _ _ h => h) (Or.inl ⟨by rfl, ?_⟩) (by assumption) ?_
                        · (intro W hSw; (try dsimp only at hSw); go_simp; try with_reducible rfl)
                        try simp only [Act.put, List.setIfInBounds_toArray, List.set_cons_zero, List.set_cons_succ]
                        refine wpAnyH_take (i := 21) (oi := { dst := some 99, op := Go.Op.load 24 (Go.Operand.tmp 11), type := 24, pos := "law.go:82", after := #[{ on := 20, ground := Go.Ground.guard }], guard := some (20, true) }) (v := .agg #[.slice A n c, .slice B m d]) rfl (by kernel_rfl) (by kernel_rfl) (by kernel_rfl) (fun _ _ _ h => h) (Or.inl ⟨by rfl, ?_⟩) (by assumption) ?_
                        · (intro W hSw; (try dsimp only at hSw); go_simp; try with_reducible rfl)
                        try simp only [Act.put, List.setIfInBounds_toArray, List.set_cons_zero, List.set_cons_succ]
                        refine wpAnyH_ready (rs := [22]) (by kernel_rfl) (by simp) ?_
                        refine AllReadyH.cons (o := { dst := some 100, op := Go.Op.call { callee := Go.Callee.value (Go.Operand.func 17), args := #[Go.Operand.tmp 99], argTypes := #[24] }, type := 4, pos := "law.go:82", after := #[{ on := 21, ground := Go.Ground.data }, { on := 20, ground := Go.Ground.chain }, { on := 20, ground := Go.Ground.guard }], guard := some (20, true) }) rfl (fun K hK => ?_) ?_
                        · go_simp
                          (go_at_call 17; refine (HVQ.out _ hY18_).mono ?_; rintro e v22 ⟨rfl, hq22⟩; have hY22_ := below_call hY18_ hq22; clear hq22)
                          refine hK.out _ _ ?_ (fun hHeld9 => ?_)
                          · try dsimp only
                            exact hKK.out _ hY22_
                          clear hK K
                          try simp only [Act.put, List.setIfInBounds_toArray, List.set_cons_zero, List.set_cons_succ]
                          refine wpAnyH_take (i := 23) (oi := { dst := some 101, op := Go.Op.pick (Go.Operand.tmp 98) (Go.Operand.tmp 100) (Go.Operand.const (Go.Value.bool false)), type := 4, pos := "law.go:82", after := #[{ on := 20, ground := Go.Ground.data }, { on := 22, ground := Go.Ground.data }], guard := none }) (v := .bool true) rfl (by kernel_rfl) (by kernel_rfl) (by kernel_rfl) (fun _ _ _ h => h) (Or.inl ⟨by rfl, ?_⟩) (by assumption) ?_
                          · (intro W hSw; (try dsimp only at hSw); go_simp; try with_reducible rfl)
                          try simp only [Act.put, List.setIfInBounds_toArray, List.set_cons_zero, List.set_cons_succ]
                          refine wpAnyH_take (i := 24) (oi := { dst := some 10, op := Go.Op.assign (Go.Operand.tmp 101), type := 4, pos := "law.go:82", after := #[{ on := 23, ground := Go.Ground.data }, { on := 22, ground := Go.Ground.chain }, { on := 0, ground := Go.Ground.phase }, { on := 1, ground := Go.Ground.phase }, { on := 2, ground := Go.Ground.phase }, { on := 3, ground := Go.Ground.phase }, { on := 4, ground := Go.Ground.phase }, { on := 5, ground := Go.Ground.phase }, { on := 6, ground := Go.Ground.phase }, { on := 7, ground := Go.Ground.phase }, { on := 8, ground := Go.Ground.phase }, { on := 9, ground := Go.Ground.phase }, { on := 10, ground := Go.Ground.phase }, { on := 11, ground := Go.Ground.phase }, { on := 12, ground := Go.Ground.phase }, { on := 13, ground := Go.Ground.phase }, { on := 14, ground := Go.Ground.phase }, { on := 15, ground := Go.Ground.phase }, { on := 16, ground := Go.Ground.phase }, { on := 17, ground := Go.Ground.phase }, { on := 18, ground := Go.Ground.phase }, { on := 19, ground := Go.Ground.phase }, { on := 20, ground := Go.Ground.phase }, { on := 21, ground := Go.Ground.phase }, { on := 22, ground := Go.Ground.phase }, { on := 23, ground := Go.Ground.phase }], guard := none }) (v := .bool true) rfl (by kernel_rfl) (by kernel_rfl) (by kernel_rfl) (fun _ _ _ h => h) (Or.inl ⟨by rfl, ?_⟩) (by assumption) ?_
                          · (intro W hSw; (try dsimp only at hSw); go_simp; try with_reducible rfl)
                          try simp only [Act.put, List.setIfInBounds_toArray, List.set_cons_zero, List.set_cons_succ]
                          refine wpAnyH_done (by kernel_rfl) ?_ _
                          go_wp2_with fail
                          go_ret
                          exact ⟨rfl, below_call hb0d hY22_⟩
                        exact AllReadyH.nil
                      exact AllReadyH.nil
                    exact AllReadyH.nil
                  exact AllReadyH.nil
                exact AllReadyH.nil
              exact AllReadyH.nil
            exact AllReadyH.nil
          exact AllReadyH.nil
        exact AllReadyH.nil
end Go.Proofs.YtobgnncdldfkkaaDoor
