/- The walk of QueuePlays. -/
import Derived.Test.YtobgnncdldfkkaaDoorQW
import Derived.Test.YtobgnncdldfkkaaDoorQY
import Derived.Test.YtobgnncdldfkkaaDoorQX
import Derived.Deep.DeepCutAuto
import Derived.Deep.CutBlock
namespace Go.Proofs.YtobgnncdldfkkaaDoor
open Go.RowKit
set_option linter.unusedSimpArgs false
set_option linter.unusedVariables false

/-- the row's block lies below S -/
def RB (A : Option Addr) (n S : Nat) : Prop := ∀ b off, A = some ⟨b, off, none⟩ → 0 < n → b < S
theorem RB.of {W : World} {A : Option Addr} {n c : Nat} {L : List Jb} (h : RdR RJ 4 W A n c L) : RB A n W.heap.size := by
  intro b off e h0
  obtain ⟨b', off', e', hb, hc⟩ := RdJ.opened h h0
  rw [e] at e'
  injection e' with e'
  injection e' with e1 e2
  subst e1 e2
  exact hb
/-- the state of the play: two queues that read alike, and a source -/
def PS (w0 W : World) (g ga gb : Nat) (A : Option Addr) (n c k S : Nat) : Prop := ∃ (L M : List Jb) (Aa : Option Addr) (na ca : Nat) (Ba : Option Addr) (ma da : Nat) (Ab : Option Addr) (nb cb : Nat) (Bb : Option Addr) (mb db : Nat), Below w0.heap.size w0 W ∧ SrcAt W g A n c ∧ W.heap[ga]? = some (.cells #[.slice Aa na ca, .slice Ba ma da] 24 (0, 0)) ∧ W.heap[gb]? = some (.cells #[.slice Ab nb cb, .slice Bb mb db] 24 (0, 0)) ∧ RdR RJ 4 W Aa na ca L ∧ RdR RJ 4 W Ba ma da M ∧ RdR RJ 4 W Ab nb cb L ∧ RdR RJ 4 W Bb mb db M ∧ Hid ((∀ j ∈ L, MJ j) ∧ (∀ j ∈ M, MJ j) ∧ L.Nodup) ∧ L.length + k ≤ 40 ∧ M.length + k ≤ 40 ∧ S ≤ W.heap.size ∧ Hid (RB Aa na S ∧ RB Ba ma S ∧ RB Ab nb S ∧ RB Bb mb S)
theorem qv_true {L M : List Jb} (hL : ∀ j ∈ L, MJ j) (hM : ∀ j ∈ M, MJ j) (hn : L.Nodup) : qv L M = true := by
  unfold qv
  rw [List.all_eq_true.2 (fun j hj => (hL j hj).good), List.all_eq_true.2 (fun j hj => (hM j hj).good), decide_eq_true hn]
  rfl
/-- block g9 holds a made job -/
def JB (W : World) (g9 : Nat) : Prop := ∃ j : Jb, MJ j ∧ W.heap[g9]? = some (.cells #[.int .i64 j.st, .string j.us, .int .i64 j.sp, .string j.nm] 28 (0, 0))
theorem PS.next {w0 W W' : World} {g ga gb k S : Nat} {A : Option Addr} {n c : Nat} (h : PS w0 W g ga gb A n c k S) (hg : w0.heap.size ≤ g) (hag : ga ≠ g) (hbg : gb ≠ g) (hs' : SrcAt W' g A n c) (hr : W.grownBy W' (some g)) : PS w0 W' g ga gb A n c k S := by
  obtain ⟨L, M, Aa, na, ca, Ba, ma, da, Ab, nb, cb, Bb, mb, db, hb, hs, ka, kb, h1, h2, h3, h4, hP, hl1, hl2, hS, hrb⟩ := h
  exact ⟨L, M, Aa, na, ca, Ba, ma, da, Ab, nb, cb, Bb, mb, db, below_grown hb hb.size hr hg, hs', heap_grown hr hag ka, heap_grown hr hbg kb, RdJ.grownS h1 hs hr, RdJ.grownS h2 hs hr, RdJ.grownS h3 hs hr, RdJ.grownS h4 hs hr, hP, hl1, hl2, Nat.le_trans hS hr.size, hrb⟩
theorem PS.call {w0 W W' : World} {g ga gb k S : Nat} {A : Option Addr} {n c : Nat} (h : PS w0 W g ga gb A n c k S) (hb' : Below W.heap.size W W') : PS w0 W' g ga gb A n c k S := by
  obtain ⟨L, M, Aa, na, ca, Ba, ma, da, Ab, nb, cb, Bb, mb, db, hb, hs, ka, kb, h1, h2, h3, h4, hP, hl1, hl2, hS, hrb⟩ := h
  exact ⟨L, M, Aa, na, ca, Ba, ma, da, Ab, nb, cb, Bb, mb, db, below_call hb hb', srcAt_below hs hb', heap_call hb' ka, heap_call hb' kb, RdJ.below h1 hb', RdJ.below h2 hb', RdJ.below h3 hb', RdJ.below h4 hb', hP, hl1, hl2, Nat.le_trans hS hb'.size, hrb⟩
/-- both queues are laid anew -/
theorem PS.stores {w0 W : World} {g ga gb k : Nat} {A : Option Addr} {n c : Nat} {L M : List Jb} {Aa : Option Addr} {na ca : Nat} {Ba : Option Addr} {ma da : Nat} {Ab : Option Addr} {nb cb : Nat} {Bb : Option Addr} {mb db : Nat}
    (hb : Below w0.heap.size w0 W) (hs : SrcAt W g A n c) {a1 a2 b1 b2 : Option Addr} {i1 i2 i3 i4 j1 j2 j3 j4 : Nat}
    (ka : W.heap[ga]? = some (.cells #[.slice a1 i1 i2, .slice a2 i3 i4] 24 (0, 0))) (kb : W.heap[gb]? = some (.cells #[.slice b1 j1 j2, .slice b2 j3 j4] 24 (0, 0)))
    (h1 : RdR RJ 4 W Aa na ca L) (h2 : RdR RJ 4 W Ba ma da M) (h3 : RdR RJ 4 W Ab nb cb L) (h4 : RdR RJ 4 W Bb mb db M) (hP : Hid ((∀ j ∈ L, MJ j) ∧ (∀ j ∈ M, MJ j) ∧ L.Nodup)) (hl1 : L.length + k ≤ 40) (hl2 : M.length + k ≤ 40)
    (hga : w0.heap.size ≤ ga) (hgb : w0.heap.size ≤ gb) (hab : ga ≠ gb) (hag : g ≠ ga) (hbg : g ≠ gb) :
    PS w0 ((((W.setCell ⟨ga, 0, none⟩ (.slice Aa na ca)).setCell ⟨ga, 1, none⟩ (.slice Ba ma da)).setCell ⟨gb, 0, none⟩ (.slice Ab nb cb)).setCell ⟨gb, 1, none⟩ (.slice Bb mb db)) g ga gb A n c k W.heap.size := by
  have ka1 : (W.setCell ⟨ga, 0, none⟩ (.slice Aa na ca)).heap[ga]? = some (.cells #[.slice Aa na ca, .slice a2 i3 i4] 24 (0, 0)) := heap_set_near _ _ _ _ _ _ ka
  have ka2 : ((W.setCell ⟨ga, 0, none⟩ (.slice Aa na ca)).setCell ⟨ga, 1, none⟩ (.slice Ba ma da)).heap[ga]? = some (.cells #[.slice Aa na ca, .slice Ba ma da] 24 (0, 0)) := heap_set_near _ _ _ _ _ _ ka1
  have kb2 : ((W.setCell ⟨ga, 0, none⟩ (.slice Aa na ca)).setCell ⟨ga, 1, none⟩ (.slice Ba ma da)).heap[gb]? = some (.cells #[.slice b1 j1 j2, .slice b2 j3 j4] 24 (0, 0)) := (heap_set_far _ _ _ _ _ hab.symm).trans ((heap_set_far _ _ _ _ _ hab.symm).trans kb)
  have kb3 : (((W.setCell ⟨ga, 0, none⟩ (.slice Aa na ca)).setCell ⟨ga, 1, none⟩ (.slice Ba ma da)).setCell ⟨gb, 0, none⟩ (.slice Ab nb cb)).heap[gb]? = some (.cells #[.slice Ab nb cb, .slice b2 j3 j4] 24 (0, 0)) := heap_set_near _ _ _ _ _ _ kb2
  have kb4 : ((((W.setCell ⟨ga, 0, none⟩ (.slice Aa na ca)).setCell ⟨ga, 1, none⟩ (.slice Ba ma da)).setCell ⟨gb, 0, none⟩ (.slice Ab nb cb)).setCell ⟨gb, 1, none⟩ (.slice Bb mb db)).heap[gb]? = some (.cells #[.slice Ab nb cb, .slice Bb mb db] 24 (0, 0)) := heap_set_near _ _ _ _ _ _ kb3
  have hr : ∀ {A' : Option Addr} {n' c' : Nat} {X : List Jb}, RdR RJ 4 W A' n' c' X → RdR RJ 4 ((((W.setCell ⟨ga, 0, none⟩ (.slice Aa na ca)).setCell ⟨ga, 1, none⟩ (.slice Ba ma da)).setCell ⟨gb, 0, none⟩ (.slice Ab nb cb)).setCell ⟨gb, 1, none⟩ (.slice Bb mb db)) A' n' c' X := fun h =>
    RdJ.setQ (RdJ.setQ (RdJ.setQ (RdJ.setQ h ka _ _) ka1 _ _) kb2 _ _) kb3 _ _
  exact ⟨L, M, Aa, na, ca, Ba, ma, da, Ab, nb, cb, Bb, mb, db, (((hb.setCell hga _).setCell hga _).setCell hgb _).setCell hgb _, srcAt_setX (srcAt_setX (srcAt_setX (srcAt_setX hs hag _ _) hag _ _) hbg _ _) hbg _ _, (heap_set_far _ _ _ _ _ hab).trans ((heap_set_far _ _ _ _ _ hab).trans ka2), kb4, hr h1, hr h2, hr h3, hr h4, hP, hl1, hl2, by simp only [size_set]; exact Nat.le_refl _, Lib.hid ⟨RB.of h1, RB.of h2, RB.of h3, RB.of h4⟩⟩

theorem RdJ.cellsAt {w : World} {b off n c : Nat} {L : List Jb} (h : RdR RJ 4 w (some ⟨b, off, none⟩) n c L) {k : Nat} (hk : k < n) :
    w.cell? ⟨b, off + k * 4, none⟩ = some (.int .i64 (L.getD k jb0).st) ∧ w.cell? ⟨b, off + k * 4 + 1, none⟩ = some (.string (L.getD k jb0).us) ∧ w.cell? ⟨b, off + k * 4 + 2, none⟩ = some (.int .i64 (L.getD k jb0).sp) ∧ w.cell? ⟨b, off + k * 4 + 3, none⟩ = some (.string (L.getD k jb0).nm) := by
  obtain ⟨b', off', e1, hb, hc⟩ := RdJ.opened h (by omega)
  injection e1 with e1
  injection e1 with e1 e2
  subst e1 e2
  exact hc k hk
theorem RdJ.set9 {w : World} {A : Option Addr} {n c S g9 : Nat} {L : List Jb} (h : RdR RJ 4 w A n c L) (hb : RB A n S) (hg : S ≤ g9) (i : Nat) (u : Value) : RdR RJ 4 (w.setCell ⟨g9, i, none⟩ u) A n c L :=
  RdJ.kept h (by rw [size_set]; exact Nat.le_refl _) fun b off e h0 => heap_set_far _ _ _ _ _ (fun eg => by have := hb b off e h0; subst eg; omega)
theorem PS.set9 {w0 W : World} {g ga gb k S : Nat} {A : Option Addr} {n c : Nat} {g9 o : Nat} (h : PS w0 W g ga gb A n c k S) (hS9 : S ≤ g9) (hg : w0.heap.size ≤ g9) (h1 : ga ≠ g9) (h2 : gb ≠ g9) (h3 : g ≠ g9) (v : Value) : PS w0 (W.setCell ⟨g9, o, none⟩ v) g ga gb A n c k S := by
  obtain ⟨L, M, Aa, na, ca, Ba, ma, da, Ab, nb, cb, Bb, mb, db, hb, hs, ka, kb, x1, x2, x3, x4, hP, hl1, hl2, hS, hrb⟩ := h
  exact ⟨L, M, Aa, na, ca, Ba, ma, da, Ab, nb, cb, Bb, mb, db, hb.setCell hg _, srcAt_setX hs h3 _ _, (heap_set_far _ _ _ _ _ h1).trans ka, (heap_set_far _ _ _ _ _ h2).trans kb, RdJ.set9 x1 hrb.out.1 hS9 _ _, RdJ.set9 x2 hrb.out.2.1 hS9 _ _, RdJ.set9 x3 hrb.out.2.2.1 hS9 _ _, RdJ.set9 x4 hrb.out.2.2.2 hS9 _ _, hP, hl1, hl2, by rw [size_set]; exact hS, hrb⟩
theorem mj_at {M : List Jb} (h : ∀ j ∈ M, MJ j) {k : Nat} (hk : k < M.length) : MJ (M.getD k jb0) := by
  have hm : M.getD k jb0 ∈ M := by simp only [List.getD, List.getElem?_eq_getElem hk, Option.getD_some]; exact List.getElem_mem hk
  exact h _ hm
theorem JB.four {W : World} {g9 : Nat} {j j2 : Jb} (k9 : W.heap[g9]? = some (.cells #[.int .i64 j.st, .string j.us, .int .i64 j.sp, .string j.nm] 28 (0, 0))) (hj : MJ j2) : JB ((((W.setCell ⟨g9, 0, none⟩ (.int .i64 j2.st)).setCell ⟨g9, 1, none⟩ (.string j2.us)).setCell ⟨g9, 2, none⟩ (.int .i64 j2.sp)).setCell ⟨g9, 3, none⟩ (.string j2.nm)) g9 :=
  ⟨j2, hj, heap_set_near _ _ _ _ _ _ (heap_set_near _ _ _ _ _ _ (heap_set_near _ _ _ _ _ _ (heap_set_near _ _ _ _ _ _ k9)))⟩

abbrev S4 (ha hc : Nat) (x0 x1 x2 x3 : Value) (W : World) : Prop := W.cell? ⟨ha, 0, none⟩ = some x0 ∧ W.cell? ⟨ha, 1, none⟩ = some x1 ∧ W.cell? ⟨hc, 0, none⟩ = some x2 ∧ W.cell? ⟨hc, 1, none⟩ = some x3
theorem S4.set2 {ha hc g i j : Nat} {x0 x1 x2 x3 v u : Value} {W : World} (h : S4 ha hc x0 x1 x2 x3 W) (h1 : g ≠ ha) (h2 : g ≠ hc) : S4 ha hc x0 x1 x2 x3 ((W.setCell ⟨g, i, none⟩ v).setCell ⟨g, j, none⟩ u) := by
  obtain ⟨a, b, c, d⟩ := h
  refine ⟨?_, ?_, ?_, ?_⟩
  · rw [World.cell?_setCell_far _ _ _ _ h1, World.cell?_setCell_far _ _ _ _ h1]; exact a
  · rw [World.cell?_setCell_far _ _ _ _ h1, World.cell?_setCell_far _ _ _ _ h1]; exact b
  · rw [World.cell?_setCell_far _ _ _ _ h2, World.cell?_setCell_far _ _ _ _ h2]; exact c
  · rw [World.cell?_setCell_far _ _ _ _ h2, World.cell?_setCell_far _ _ _ _ h2]; exact d

set_option maxRecDepth 100000 in
set_option maxHeartbeats 16000000 in
theorem queueplays_walk (A : Option Addr) (n c : Nat) (zs : List Int) (N : Int) (x : Int) (w : World) (hr : RdN w A n c zs) (hx : Hm x w) :
    Calls Tryd.prog 9 #[.slice A n c, .int .i64 N] w fun e w' => e = .returned (.bool true) ∧ Below w.heap.size w w' := by
  have HAW := Lib.hid fun (W : World) (hW : Below w.heap.size w W) => awake_any x W (hx.below hW)
  have HX := Lib.hid fun (W : World) (hW : Below w.heap.size w W) => hx.below hW
  have HFR : Hid (∀ W, Below w.heap.size w W → Calls Tryd.prog 14 #[.slice A n c] W (RFrom W A n c)) := Lib.hid fun W hW => from_any A n c zs W ⟨hr.len, hr.cap, hr.max, (hr.reads.below hW).more hW.size⟩
  have HN : Hid (∀ (g : Nat) (M : Int) (W : World), 0 < M → M ≤ 100 → w.heap.size ≤ g → Below w.heap.size w W → SrcAt W g A n c → Calls Tryd.prog 26 #[.pointer (some ⟨g, 0, none⟩), .int .i64 M] W (RNext W g A n c M)) := Lib.hid fun g M W h1 h2 hg hW hs => next_any w g A n c zs M W hr hW hg hs h1 (by omega)
  have HJ : Hid (∀ (g : Nat) (W : World), w.heap.size ≤ g → Below w.heap.size w W → SrcAt W g A n c → Calls Tryd.prog 13 #[.pointer (some ⟨g, 0, none⟩)] W fun e w' => ∃ st us sp nm, MJ ⟨st, us, sp, nm⟩ ∧ e = .returned (.agg #[.int .i64 st, .string us, .int .i64 sp, .string nm]) ∧ SrcAt w' g A n c ∧ W.grownBy w' (some g)) := Lib.hid fun g W hg hW hs => (job_any w g A n c zs W hr hW hg hs).mono fun e w' ⟨j, h1, h2, h3, h4⟩ => ⟨j.st, j.us, j.sp, j.nm, h1, h2, h3, h4⟩
  have HRO := Lib.hid fun (W : World) => round_any N 40 W (by omega) (by omega)
  have h0 := Int.emod_nonneg N (by decide : (40 : Int) ≠ 0)
  have h1 := Int.emod_lt_of_pos N (by decide : (0 : Int) < 40)
  generalize N % 40 = K at HRO h0 h1
  clear hr hx
  go_enter Tryd.func9, Tryd.ntmps9
  go_wp2_with fail
  go_at_call 14
  refine (HFR.out _ (Below.refl _ _)).mono ?_
  rintro e w1 ⟨v, rfl, ⟨g, rfl, hg, hs1⟩, hb1⟩
  have hgl := srcAt_lt hs1
  go_wp2_with fail
  go_at_call 16
  refine (HRO.out _).mono ?_
  rintro e w2 ⟨rfl, rfl⟩
  have hal : Below w1.heap.size w1 ((w1.alloc (.cells #[.slice none 0 0, .slice none 0 0] 24)).alloc (.cells #[.slice none 0 0, .slice none 0 0] 24)) := ((Below.refl _ _).alloc (Nat.le_refl _) _).alloc (by rw [size_alloc_]; omega) _
  obtain ⟨k0, rfl⟩ := Int.eq_ofNat_of_zero_le h0
  have HP0 : Hid (PS w ((w1.alloc (.cells #[.slice none 0 0, .slice none 0 0] 24)).alloc (.cells #[.slice none 0 0, .slice none 0 0] 24)) g w1.heap.size (w1.heap.size + 1) A n c k0 0) := Lib.hid ⟨[], [], none, 0, 0, none, 0, 0, none, 0, 0, none, 0, 0, below_call hb1 hal, srcAt_below hs1 hal, heap_old (heap_new rfl), heap_new (by rw [size_alloc_]), RdR.nil _ _ _, RdR.nil _ _ _, RdR.nil _ _ _, RdR.nil _ _ _, Lib.hid ⟨by simp, by simp, List.nodup_nil⟩, by simp; omega, by simp; omega, Nat.zero_le _, Lib.hid ⟨fun b off e => (by cases e), fun b off e => (by cases e), fun b off e => (by cases e), fun b off e => (by cases e)⟩⟩
  generalize (w1.alloc (.cells #[.slice none 0 0, .slice none 0 0] 24)).alloc (.cells #[.slice none 0 0, .slice none 0 0] 24) = w3 at HP0 ⊢
  have hw1 := hb1.size
  generalize w1.heap.size = ga at HP0 hgl hw1 ⊢
  clear hal hs1 hb1
  go_wp2_with fail
  go_loopw [8] (fun v wr => ∃ k S : Nat, v = .int .i64 k ∧ PS w wr g ga (ga + 1) A n c k S) (fun v _ => (intOf v).toNat)
  case atStart => exact ⟨k0, 0, rfl, HP0.out⟩
  case round =>
    obtain ⟨k, S, rfl, HPS⟩ := hrel
    cases k with
    | zero =>
      obtain ⟨L, M, Aa, na, ca, Ba, ma, da, Ab, nb, cb, Bb, mb, db, hb, hs, ka, kb, hL, hM, hL2, hM2, HP, hl1, hl2, hS, HRB⟩ := HPS
      go_wp2_with fail
      go_at_call 11
      refine (HAW.out _ hb).mono ?_
      rintro e w4 ⟨rfl, hb4⟩
      go_wp2_with fail
      go_ret
      exact ⟨by rfl, below_call hb hb4⟩
    | succ k =>
      clear HP0
      obtain ⟨hb, hs, hz9a, hz9b, hz9c⟩ : Below w.heap.size w wr ∧ SrcAt wr g A n c ∧ g + 1 ≤ wr.heap.size ∧ ga + 2 ≤ wr.heap.size ∧ S ≤ wr.heap.size := by
        obtain ⟨L, M, Aa, na, ca, Ba, ma, da, Ab, nb, cb, Bb, mb, db, hb, hs, ka, kb, _, _, _, _, _, _, _, hS, _⟩ := HPS
        exact ⟨hb, hs, srcAt_lt hs, Blk.lt kb, hS⟩
      go_upto_region 7 with (go_at_call 13; go_must (refine (HJ.out g _ (by omega) hb hs).mono ?_; rintro e w4 ⟨st, us, sp, nm, hj, rfl, hs4, hg4⟩))
      have HPS4 := HPS.next (by omega) (by omega) (by omega) hs4 hg4
      have hz4 := hg4.size
      have hal : Below w4.heap.size w4 (w4.alloc (.cells #[.int .i64 st, .string us, .int .i64 sp, .string nm] 28)) := (Below.refl _ _).alloc (Nat.le_refl _) _
      have HP5 := HPS4.call hal
      have HJ5 : JB (w4.alloc (.cells #[.int .i64 st, .string us, .int .i64 sp, .string nm] 28)) w4.heap.size := ⟨⟨st, us, sp, nm⟩, hj, heap_new rfl⟩
      generalize w4.alloc (.cells #[.int .i64 st, .string us, .int .i64 sp, .string nm] 28) = w5 at HP5 HJ5 ⊢
      obtain ⟨g9, hg9⟩ : ∃ q, q = w4.heap.size := ⟨_, rfl⟩
      rw [← hg9] at HJ5 hz4 ⊢
      clear hg9 hal HPS4 hg4 hs4 hj HPS hb hs
      go_cut [34] (fun v34 wx => ∃ b : Bool, v34 = .bool b ∧ PS w wx g ga (ga + 1) A n c (k + 1) S ∧ JB wx g9 ∧ (b = true → ∃ (L M : List Jb) (Ab : Option Addr) (nb cb : Nat) (Bb : Option Addr) (mb db : Nat), wx.heap[ga + 1]? = some (.cells #[.slice Ab nb cb, .slice Bb mb db] 24 (0, 0)) ∧ RdR RJ 4 wx Bb mb db M ∧ 0 < mb ∧ mb ≤ 40 ∧ Hid (∀ j ∈ M, MJ j)))
      case first =>
        obtain ⟨L, M, Aa, na, ca, Ba, ma, da, Ab, nb, cb, Bb, mb, db, hb, hs, ka, kb, hL, hM, hL2, hM2, HP, hl1, hl2, hS, HRB⟩ := HP5
        have kcb := Blk.cell kb
        have hmb : mb ≤ 40 := by have := hM2.len; omega
        by_cases h0 : mb = 0
        · subst h0
          go_wp2_with fail
          go_meet
          exact ⟨false, rfl, ⟨L, M, Aa, na, ca, Ba, ma, da, Ab, nb, cb, Bb, 0, db, hb, hs, ka, kb, hL, hM, hL2, hM2, HP, hl1, hl2, hS, HRB⟩, HJ5, fun h => by cases h⟩
        · have z1 : 0 < mb := by omega
          have z2 : decide (0 < mb) = true := decide_eq_true z1
          have z3 : (0 : Int) < (mb : Int) := by omega
          have HPP : Hid (PS w w5 g ga (ga + 1) A n c (k + 1) S) := Lib.hid ⟨L, M, Aa, na, ca, Ba, ma, da, Ab, nb, cb, Bb, mb, db, hb, hs, ka, kb, hL, hM, hL2, hM2, HP, hl1, hl2, hS, HRB⟩
          clear hL hM hL2 ka hl1 hl2 h0
          go_wp2_with (go_at_call 26; go_must (refine (HN.out g _ _ (by omega) (by omega) (by omega) hb hs).mono ?_; rintro e w6 ⟨q6, rfl, q6a, q6b, hs6, hg6⟩))
          go_meet
          obtain ⟨j, hj, k9⟩ := HJ5
          exact ⟨_, rfl, HPP.out.next (by omega) (by omega) (by omega) hs6 hg6, ⟨j, hj, heap_grown hg6 (by omega) k9⟩, fun _ => ⟨L, M, Ab, nb, cb, Bb, mb, db, heap_grown hg6 (by omega) kb, RdJ.grownS hM2 hs hg6, z1, hmb, Lib.hid HP.out.2.1⟩⟩
      case rest =>
        obtain ⟨bb, rfl, HP6, HJ6, HT6⟩ := hcut
        clear HP5 HJ5
        obtain ⟨w6, rfl⟩ : ∃ q, q = wc := ⟨_, rfl⟩
        go_upto_if 34 with fail
        go_cut [34] (fun v34 wx => PS w wx g ga (ga + 1) A n c (k + 1) S ∧ JB wx g9)
        case first =>
          cases bb with
          | false =>
            go_wp2_with fail
            go_meet
            exact ⟨HP6, HJ6⟩
          | true =>
            obtain ⟨L, M, Ab, nb, cb, Bb, mb, db, kb, hM, z1, hmb, hMJ⟩ := HT6 rfl
            obtain ⟨b, off, rfl, -, -⟩ := RdJ.opened hM z1
            obtain ⟨hb, hs⟩ : Below w.heap.size w w6 ∧ SrcAt w6 g A n c := by
              obtain ⟨L, M, Aa, na, ca, Ba, ma, da, Ab, nb, cb, Bb, mb, db, hb, hs, _⟩ := HP6
              exact ⟨hb, hs⟩
            obtain ⟨j, hj, k9⟩ := HJ6
            have kcb := Blk.cell kb
            have z3 : (0 : Int) < (mb : Int) := by omega
            have HPP := Lib.hid HP6
            have HLM := Lib.hid hM.len
            have hz9d : S ≤ g9 := by omega
            clear HP6 HT6
            go_upto_region 8 with fail
            go_region_with (go_at_call 26; ((with_reducible refine (HN.out g _ _ ?_ ?_ ?_ ?_ ?_).mono ?_); (focus omega); (focus omega); (focus omega); (focus (refine below_call hb ?_; exact bel_out (bel_drew (bel_refl (Nat.le_refl _))))); (focus (exact hs)); rintro e w7 ⟨q7, rfl, q7a, q7b, hs7, hg7⟩; (have hg7' : w6.grownBy w7 (some g) := ⟨hg7.os, hg7.tape, hg7.output, hg7.size, hg7.block⟩); obtain ⟨k1, rfl⟩ := Int.eq_ofNat_of_zero_le q7a; (have kb7 := heap_grown hg7' (by omega) kb); (have kcb7 := Blk.cell kb7); (have k97 := heap_grown hg7' (by omega) k9); (have kc9 := Blk.cell k97); (have kf9 := Blk.frozen k97); obtain ⟨c1, c2, c3, c4⟩ := RdJ.cellsAt (RdJ.grownS hM hs hg7') (k := k1) (by omega); (have hj2 := mj_at hMJ.out (k := k1) (by rw [← HLM.out]; omega)); (generalize M.getD k1 jb0 = j2 at c1 c2 c3 c4 hj2); (have y1 : (k1 : Int) < mb := by omega); (have y0 : (0 : Int) ≤ (k1 : Int) := by omega)))
            all_goals
              go_wp2_with fail
              go_meet
              exact ⟨(((((HPP.out.next (by omega) (by omega) (by omega) hs7 hg7').set9 hz9d (by omega) (by omega) (by omega) (by omega) _).set9 hz9d (by omega) (by omega) (by omega) (by omega) _).set9 hz9d (by omega) (by omega) (by omega) (by omega) _).set9 hz9d (by omega) (by omega) (by omega) (by omega) _), JB.four k97 hj2⟩
        case rest =>
          obtain ⟨HP7, HJ7⟩ := hcut
          clear HP6 HJ6 HT6
          obtain ⟨w7, rfl⟩ : ∃ q, q = wc := ⟨_, rfl⟩
          obtain ⟨hb, hs⟩ : Below w.heap.size w w7 ∧ SrcAt w7 g A n c := by
            obtain ⟨L, M, Aa, na, ca, Ba, ma, da, Ab, nb, cb, Bb, mb, db, hb, hs, _⟩ := HP7
            exact ⟨hb, hs⟩
          have HJ8 : JB w7 g9 := HJ7
          go_upto_block 2 with (go_at_call 26; go_must (refine (HN.out g _ _ (by omega) (by omega) (by omega) hb hs).mono ?_; rintro e w8 ⟨q8, rfl, q8a, q8b, hs8, hg8⟩))
          have HP8 := HP7.next (by omega) (by omega) (by omega) hs8 hg8
          have HJ8 : JB w8 g9 := by
            obtain ⟨j, hj, k9⟩ := HJ7
            exact ⟨j, hj, heap_grown hg8 (by omega) k9⟩
          clear HP7 HJ7 hb hs hs8 hg8
          go_cut [52] (fun v52 wx => ∃ S', PS w wx g ga (ga + 1) A n c k S')
          case first =>
            obtain ⟨L, M, Aa, na, ca, Ba, ma, da, Ab, nb, cb, Bb, mb, db, hb, hs, ka, kb, h1, h2, h3, h4, HP, hl1, hl2, hS, HRB⟩ := HP8
            obtain ⟨j, hj, k9⟩ := HJ8
            have hna : na ≤ 40 := by have := h1.len; omega
            have hma : ma ≤ 40 := by have := h2.len; omega
            have hnb : nb ≤ 40 := by have := h3.len; omega
            have hmb : mb ≤ 40 := by have := h4.len; omega
            have hq : q8 = 0 ∨ q8 = 1 ∨ q8 = 2 ∨ q8 = 3 ∨ q8 = 4 := by omega
            clear q8a q8b
            rcases hq with rfl | rfl | rfl | rfl | rfl
            · have HA : Hid (∀ W, Below w8.heap.size w8 W → Calls Tryd.prog 19 #[.agg #[.slice Aa na ca, .slice Ba ma da], .agg #[.int .i64 j.st, .string j.us, .int .i64 j.sp, .string j.nm]] W (RRdQ W (addL L j) (M))) := Lib.hid fun W hW => add_any Aa na ca L Ba ma da M j W (RdJ.below h1 hW) (RdJ.below h2 hW) (by omega) (by omega)
              have HB : Hid (∀ W, Below w8.heap.size w8 W → Calls Tryd.prog 27 #[.agg #[.slice Ab nb cb, .slice Bb mb db], .agg #[.int .i64 j.st, .string j.us, .int .i64 j.sp, .string j.nm]] W (RRdQ W (addL L j) (M))) := Lib.hid fun W hW => radd_any Ab nb cb L Bb mb db M j W (RdJ.below h3 hW) (RdJ.below h4 hW) (by omega) (by omega)
              have HPn : Hid ((∀ a ∈ addL L j, MJ a) ∧ (∀ a ∈ M, MJ a) ∧ (addL L j).Nodup) := Lib.hid ⟨add_keeps MJ HP.out.1 hj, HP.out.2.1, add_nodup HP.out.2.2⟩
              have hl1n : (addL L j).length + k ≤ 40 := by have := addL_length L j; omega
              have hl2n : (M).length + k ≤ 40 := by omega
              clear h1 h2 h3 h4 HP hl1 hl2 hj
              obtain ⟨rL, hrL⟩ : ∃ q, q = addL L j := ⟨_, rfl⟩
              rw [← hrL] at HA HB HPn hl1n
              clear hrL
              obtain ⟨rM, hrM⟩ : ∃ q, q = M := ⟨_, rfl⟩
              rw [← hrM] at HA HB HPn hl2n
              clear hrM
              obtain ⟨st, us, sp, nm⟩ := j
              simp only [] at HA HB k9
              have kca := Blk.cell ka
              have kcb := Blk.cell kb
              have kc9 := Blk.cell k9
              have hKK : Hid (∀ W, Bel w8.heap.size w8 W → W.cell? ⟨g9, 0, none⟩ = some (.int .i64 st) ∧ W.cell? ⟨g9, 1, none⟩ = some (.string us) ∧ W.cell? ⟨g9, 2, none⟩ = some (.int .i64 sp) ∧ W.cell? ⟨g9, 3, none⟩ = some (.string nm)) := Lib.hid fun W hW => ⟨Blk.cell (heap_call hW.2 k9) 0, Blk.cell (heap_call hW.2 k9) 1, Blk.cell (heap_call hW.2 k9) 2, Blk.cell (heap_call hW.2 k9) 3⟩
              have hK2 : Hid (∀ W, Below w8.heap.size w8 W → W.heap[ga]? = some (.cells #[.slice Aa na ca, .slice Ba ma da] 24 (0, 0)) ∧ W.heap[ga + 1]? = some (.cells #[.slice Ab nb cb, .slice Bb mb db] 24 (0, 0)) ∧ SrcAt W g A n c) := Lib.hid fun W hW => ⟨heap_call hW ka, heap_call hW kb, srcAt_below hs hW⟩
              clear ka kb k9 hs
              go_upto_region 13 with fail
              have HI : Hid (w.heap.size ≤ ga ∧ w.heap.size ≤ ga + 1 ∧ ga ≠ ga + 1 ∧ g ≠ ga ∧ g ≠ ga + 1) := Lib.hid ⟨by omega, by omega, by omega, by omega, by omega⟩
              have hne1 : ga ≠ g9 := by omega
              have hne2 : ga + 1 ≠ g9 := by omega
              have hne3 : g9 ≠ ga := by omega
              have hne4 : g9 ≠ ga + 1 := by omega
              refine wp_region_held_drew (S := fun W => W.cell? ⟨g9, 0, none⟩ = some (.int .i64 st) ∧ W.cell? ⟨g9, 1, none⟩ = some (.string us) ∧ W.cell? ⟨g9, 2, none⟩ = some (.int .i64 sp) ∧ W.cell? ⟨g9, 3, none⟩ = some (.string nm)) (by kernel_rfl) ?_ (fun hHeld0 => ?_)
              · try dsimp only
                first | (refine hKK.out _ ?_; (focus (repeat' first | (with_reducible refine bel_refl ?_) | with_reducible assumption | with_reducible refine bel_drew ?_ | with_reducible refine bel_drewN _ ?_ | with_reducible refine bel_alloc _ ?_ | with_reducible refine bel_set ?_ _ ?_ | (with_reducible apply bel_call; with_reducible assumption) | (with_reducible apply bel_owg; with_reducible assumption; (focus omega)) | with_reducible exact Nat.le_refl _ | omega | (simp; done) | (simp; omega))); done) | go_keep
              refine wpAnyH_take (i := 1) (oi := { dst := some 56, op := Go.Op.load 28 (Go.Operand.tmp 9), type := 28, pos := "law.go:164", after := #[], guard := none }) (v := .agg #[.int .i64 st, .string us, .int .i64 sp, .string nm]) rfl (by kernel_rfl) (by kernel_rfl) (by kernel_rfl) (fun _ _ _ h => h) (Or.inl ⟨by rfl, ?_⟩) (by assumption) ?_
              · (intro W hSw; (try dsimp only at hSw); go_simp; try with_reducible rfl)
              try simp only [Act.put, List.setIfInBounds_toArray, List.set_cons_zero, List.set_cons_succ]
              refine wpAnyH_take (i := 4) (oi := { dst := some 59, op := Go.Op.load 28 (Go.Operand.tmp 9), type := 28, pos := "law.go:164", after := #[], guard := none }) (v := .agg #[.int .i64 st, .string us, .int .i64 sp, .string nm]) rfl (by kernel_rfl) (by kernel_rfl) (by kernel_rfl) (fun _ _ _ h => h) (Or.inl ⟨by rfl, ?_⟩) (by assumption) ?_
              · (intro W hSw; (try dsimp only at hSw); go_simp; try with_reducible rfl)
              try simp only [Act.put, List.setIfInBounds_toArray, List.set_cons_zero, List.set_cons_succ]
              refine wpAnyH_ready (rs := [0, 3]) (by kernel_rfl) (by simp) ?_
              refine AllReadyH.cons (o := { dst := some 55, op := Go.Op.load 24 (Go.Operand.tmp 6), type := 24, pos := "law.go:164", after := #[], guard := none }) rfl (fun K hK => ?_) ?_
              · go_simp
                refine hK.out _ _ ?_ (fun hHeld1 => ?_)
                · try dsimp only
                  first | (refine hKK.out _ ?_; (focus (repeat' first | (with_reducible refine bel_refl ?_) | with_reducible assumption | with_reducible refine bel_drew ?_ | with_reducible refine bel_drewN _ ?_ | with_reducible refine bel_alloc _ ?_ | with_reducible refine bel_set ?_ _ ?_ | (with_reducible apply bel_call; with_reducible assumption) | (with_reducible apply bel_owg; with_reducible assumption; (focus omega)) | with_reducible exact Nat.le_refl _ | omega | (simp; done) | (simp; omega))); done) | go_keep
                clear hK K hHeld0
                try simp only [Act.put, List.setIfInBounds_toArray, List.set_cons_zero, List.set_cons_succ]
                refine wpAnyH_ready (rs := [2, 3]) (by kernel_rfl) (by simp) ?_
                refine AllReadyH.cons (o := { dst := some 57, op := Go.Op.call { callee := Go.Callee.value (Go.Operand.func 19), args := #[Go.Operand.tmp 55, Go.Operand.tmp 56], argTypes := #[24, 28] }, type := 24, pos := "law.go:164", after := #[{ on := 0, ground := Go.Ground.data }, { on := 1, ground := Go.Ground.data }], guard := none }) rfl (fun K hK => ?_) ?_
                · go_simp
                  (go_at_call 19; ((with_reducible refine (HA.out _ ?_).mono ?_); (focus (refine bel_out ?_; (focus (repeat' first | (with_reducible refine bel_refl ?_) | with_reducible assumption | with_reducible refine bel_drew ?_ | with_reducible refine bel_drewN _ ?_ | with_reducible refine bel_alloc _ ?_ | with_reducible refine bel_set ?_ _ ?_ | (with_reducible apply bel_call; with_reducible assumption) | (with_reducible apply bel_owg; with_reducible assumption; (focus omega)) | with_reducible exact Nat.le_refl _ | omega | (simp; done) | (simp; omega))))); rintro e w9 ⟨A9, n9, c9, B9, m9, d9, rfl, hL9, hM9, hb9x⟩; (have hb9 : Below w8.heap.size w8 w9 := by (refine bel_out ?_; (focus (repeat' first | (with_reducible refine bel_refl ?_) | with_reducible assumption | with_reducible refine bel_drew ?_ | with_reducible refine bel_drewN _ ?_ | with_reducible refine bel_alloc _ ?_ | with_reducible refine bel_set ?_ _ ?_ | (with_reducible apply bel_call; with_reducible assumption) | (with_reducible apply bel_owg; with_reducible assumption; (focus omega)) | with_reducible exact Nat.le_refl _ | omega | (simp; done) | (simp; omega))))); obtain ⟨ka9, kb9, hs9⟩ := hK2.out _ hb9; (have kca9 := Blk.cell ka9); (have kcb9 := Blk.cell kb9)))
                  try go_wp2_with fail
                  refine hK.out _ _ ?_ (fun hHeld2 => ?_)
                  · try dsimp only
                    first | (refine hKK.out _ ?_; (focus (repeat' first | (with_reducible refine bel_refl ?_) | with_reducible assumption | with_reducible refine bel_drew ?_ | with_reducible refine bel_drewN _ ?_ | with_reducible refine bel_alloc _ ?_ | with_reducible refine bel_set ?_ _ ?_ | (with_reducible apply bel_call; with_reducible assumption) | (with_reducible apply bel_owg; with_reducible assumption; (focus omega)) | with_reducible exact Nat.le_refl _ | omega | (simp; done) | (simp; omega))); done) | go_keep
                  clear hK K hHeld1
                  try simp only [Act.put, List.setIfInBounds_toArray, List.set_cons_zero, List.set_cons_succ]
                  refine wpAnyH_ready (rs := [3]) (by kernel_rfl) (by simp) ?_
                  refine AllReadyH.cons (o := { dst := some 58, op := Go.Op.load 24 (Go.Operand.tmp 7), type := 24, pos := "law.go:164", after := #[], guard := none }) rfl (fun K hK => ?_) ?_
                  · go_simp
                    refine hK.out _ _ ?_ (fun hHeld3 => ?_)
                    · try dsimp only
                      first | (refine hKK.out _ ?_; (focus (repeat' first | (with_reducible refine bel_refl ?_) | with_reducible assumption | with_reducible refine bel_drew ?_ | with_reducible refine bel_drewN _ ?_ | with_reducible refine bel_alloc _ ?_ | with_reducible refine bel_set ?_ _ ?_ | (with_reducible apply bel_call; with_reducible assumption) | (with_reducible apply bel_owg; with_reducible assumption; (focus omega)) | with_reducible exact Nat.le_refl _ | omega | (simp; done) | (simp; omega))); done) | go_keep
                    clear hK K hHeld2
                    try simp only [Act.put, List.setIfInBounds_toArray, List.set_cons_zero, List.set_cons_succ]
                    refine wpAnyH_ready (rs := [5]) (by kernel_rfl) (by simp) ?_
                    refine AllReadyH.cons (o := { dst := some 60, op := Go.Op.call { callee := Go.Callee.value (Go.Operand.func 27), args := #[Go.Operand.tmp 58, Go.Operand.tmp 59], argTypes := #[24, 28] }, type := 24, pos := "law.go:164", after := #[{ on := 3, ground := Go.Ground.data }, { on := 4, ground := Go.Ground.data }, { on := 2, ground := Go.Ground.chain }], guard := none }) rfl (fun K hK => ?_) ?_
                    · go_simp
                      (go_at_call 27; ((with_reducible refine (HB.out _ ?_).mono ?_); (focus (refine bel_out ?_; (focus (repeat' first | (with_reducible refine bel_refl ?_) | with_reducible assumption | with_reducible refine bel_drew ?_ | with_reducible refine bel_drewN _ ?_ | with_reducible refine bel_alloc _ ?_ | with_reducible refine bel_set ?_ _ ?_ | (with_reducible apply bel_call; with_reducible assumption) | (with_reducible apply bel_owg; with_reducible assumption; (focus omega)) | with_reducible exact Nat.le_refl _ | omega | (simp; done) | (simp; omega))))); rintro e w10 ⟨A10, n10, c10, B10, m10, d10, rfl, hL10, hM10, hb10x⟩; (have hb10 : Below w8.heap.size w8 w10 := by (refine bel_out ?_; (focus (repeat' first | (with_reducible refine bel_refl ?_) | with_reducible assumption | with_reducible refine bel_drew ?_ | with_reducible refine bel_drewN _ ?_ | with_reducible refine bel_alloc _ ?_ | with_reducible refine bel_set ?_ _ ?_ | (with_reducible apply bel_call; with_reducible assumption) | (with_reducible apply bel_owg; with_reducible assumption; (focus omega)) | with_reducible exact Nat.le_refl _ | omega | (simp; done) | (simp; omega))))); obtain ⟨ka10, kb10, hs10⟩ := hK2.out _ hb10; (have kca10 := Blk.cell ka10); (have kcb10 := Blk.cell kb10); (have kfa10 := Blk.frozen ka10); (have kfb10 := Blk.frozen kb10)))
                      try go_wp2_with fail
                      refine hK.out _ _ ?_ (fun hHeld4 => ?_)
                      · try dsimp only
                        first | (refine hKK.out _ ?_; (focus (repeat' first | (with_reducible refine bel_refl ?_) | with_reducible assumption | with_reducible refine bel_drew ?_ | with_reducible refine bel_drewN _ ?_ | with_reducible refine bel_alloc _ ?_ | with_reducible refine bel_set ?_ _ ?_ | (with_reducible apply bel_call; with_reducible assumption) | (with_reducible apply bel_owg; with_reducible assumption; (focus omega)) | with_reducible exact Nat.le_refl _ | omega | (simp; done) | (simp; omega))); done) | go_keep
                      clear hK K hHeld3
                      try simp only [Act.put, List.setIfInBounds_toArray, List.set_cons_zero, List.set_cons_succ]
                      refine wpAnyH_ready (rs := [6]) (by kernel_rfl) (by simp) ?_
                      refine AllReadyH.cons (o := { dst := none, op := Go.Op.store 24 (Go.Operand.tmp 6) (Go.Operand.tmp 57), type := 0, pos := "law.go:164", after := #[{ on := 2, ground := Go.Ground.data }, { on := 5, ground := Go.Ground.chain }, { on := 0, ground := Go.Ground.phase }, { on := 1, ground := Go.Ground.phase }, { on := 2, ground := Go.Ground.phase }, { on := 3, ground := Go.Ground.textOnly Go.Departure.lateStores }, { on := 4, ground := Go.Ground.textOnly Go.Departure.lateStores }, { on := 5, ground := Go.Ground.textOnly Go.Departure.lateStoresUnsure }], guard := none }) rfl (fun K hK => ?_) ?_
                      · go_simp
                        refine hK.out _ _ ?_ (fun hHeld5 => ?_)
                        · try dsimp only
                          first | (refine hKK.out _ ?_; (focus (repeat' first | (with_reducible refine bel_refl ?_) | with_reducible assumption | with_reducible refine bel_drew ?_ | with_reducible refine bel_drewN _ ?_ | with_reducible refine bel_alloc _ ?_ | with_reducible refine bel_set ?_ _ ?_ | (with_reducible apply bel_call; with_reducible assumption) | (with_reducible apply bel_owg; with_reducible assumption; (focus omega)) | with_reducible exact Nat.le_refl _ | omega | (simp; done) | (simp; omega))); done) | go_keep
                        clear hK K hHeld4
                        try simp only [Act.put, List.setIfInBounds_toArray, List.set_cons_zero, List.set_cons_succ]
                        refine wpAnyH_ready (rs := [7]) (by kernel_rfl) (by simp) ?_
                        refine AllReadyH.cons (o := { dst := none, op := Go.Op.store 24 (Go.Operand.tmp 7) (Go.Operand.tmp 60), type := 0, pos := "law.go:164", after := #[{ on := 5, ground := Go.Ground.data }, { on := 6, ground := Go.Ground.chain }, { on := 0, ground := Go.Ground.phase }, { on := 1, ground := Go.Ground.phase }, { on := 2, ground := Go.Ground.phase }, { on := 3, ground := Go.Ground.phase }, { on := 4, ground := Go.Ground.phase }, { on := 5, ground := Go.Ground.phase }, { on := 6, ground := Go.Ground.phase }], guard := none }) rfl (fun K hK => ?_) ?_
                        · go_simp
                          refine hK.out _ _ ?_ (fun hHeld6 => ?_)
                          · try dsimp only
                            first | (refine hKK.out _ ?_; (focus (repeat' first | (with_reducible refine bel_refl ?_) | with_reducible assumption | with_reducible refine bel_drew ?_ | with_reducible refine bel_drewN _ ?_ | with_reducible refine bel_alloc _ ?_ | with_reducible refine bel_set ?_ _ ?_ | (with_reducible apply bel_call; with_reducible assumption) | (with_reducible apply bel_owg; with_reducible assumption; (focus omega)) | with_reducible exact Nat.le_refl _ | omega | (simp; done) | (simp; omega))); done) | go_keep
                          clear hK K hHeld5
                          try simp only [Act.put, List.setIfInBounds_toArray, List.set_cons_zero, List.set_cons_succ]
                          refine wpAnyH_done (by kernel_rfl) ?_ _
                          go_wp2_with fail
                          go_meet
                          exact ⟨_, PS.stores (below_call hb hb10) hs10 ka10 kb10 (RdJ.below hL9 hb10x) (RdJ.below hM9 hb10x) hL10 hM10 HPn hl1n hl2n HI.out.1 HI.out.2.1 HI.out.2.2.1 HI.out.2.2.2.1 HI.out.2.2.2.2⟩
                        exact AllReadyH.nil
                      exact AllReadyH.nil
                    exact AllReadyH.nil
                  exact AllReadyH.nil
                refine AllReadyH.cons (o := { dst := some 58, op := Go.Op.load 24 (Go.Operand.tmp 7), type := 24, pos := "law.go:164", after := #[], guard := none }) rfl (fun K hK => ?_) ?_
                · go_simp
                  refine hK.out _ _ ?_ (fun hHeld2 => ?_)
                  · try dsimp only
                    first | (refine hKK.out _ ?_; (focus (repeat' first | (with_reducible refine bel_refl ?_) | with_reducible assumption | with_reducible refine bel_drew ?_ | with_reducible refine bel_drewN _ ?_ | with_reducible refine bel_alloc _ ?_ | with_reducible refine bel_set ?_ _ ?_ | (with_reducible apply bel_call; with_reducible assumption) | (with_reducible apply bel_owg; with_reducible assumption; (focus omega)) | with_reducible exact Nat.le_refl _ | omega | (simp; done) | (simp; omega))); done) | go_keep
                  clear hK K hHeld1
                  try simp only [Act.put, List.setIfInBounds_toArray, List.set_cons_zero, List.set_cons_succ]
                  refine wpAnyH_ready (rs := [2]) (by kernel_rfl) (by simp) ?_
                  refine AllReadyH.cons (o := { dst := some 57, op := Go.Op.call { callee := Go.Callee.value (Go.Operand.func 19), args := #[Go.Operand.tmp 55, Go.Operand.tmp 56], argTypes := #[24, 28] }, type := 24, pos := "law.go:164", after := #[{ on := 0, ground := Go.Ground.data }, { on := 1, ground := Go.Ground.data }], guard := none }) rfl (fun K hK => ?_) ?_
                  · go_simp
                    (go_at_call 19; ((with_reducible refine (HA.out _ ?_).mono ?_); (focus (refine bel_out ?_; (focus (repeat' first | (with_reducible refine bel_refl ?_) | with_reducible assumption | with_reducible refine bel_drew ?_ | with_reducible refine bel_drewN _ ?_ | with_reducible refine bel_alloc _ ?_ | with_reducible refine bel_set ?_ _ ?_ | (with_reducible apply bel_call; with_reducible assumption) | (with_reducible apply bel_owg; with_reducible assumption; (focus omega)) | with_reducible exact Nat.le_refl _ | omega | (simp; done) | (simp; omega))))); rintro e w9 ⟨A9, n9, c9, B9, m9, d9, rfl, hL9, hM9, hb9x⟩; (have hb9 : Below w8.heap.size w8 w9 := by (refine bel_out ?_; (focus (repeat' first | (with_reducible refine bel_refl ?_) | with_reducible assumption | with_reducible refine bel_drew ?_ | with_reducible refine bel_drewN _ ?_ | with_reducible refine bel_alloc _ ?_ | with_reducible refine bel_set ?_ _ ?_ | (with_reducible apply bel_call; with_reducible assumption) | (with_reducible apply bel_owg; with_reducible assumption; (focus omega)) | with_reducible exact Nat.le_refl _ | omega | (simp; done) | (simp; omega))))); obtain ⟨ka9, kb9, hs9⟩ := hK2.out _ hb9; (have kca9 := Blk.cell ka9); (have kcb9 := Blk.cell kb9)))
                    try go_wp2_with fail
                    refine hK.out _ _ ?_ (fun hHeld3 => ?_)
                    · try dsimp only
                      first | (refine hKK.out _ ?_; (focus (repeat' first | (with_reducible refine bel_refl ?_) | with_reducible assumption | with_reducible refine bel_drew ?_ | with_reducible refine bel_drewN _ ?_ | with_reducible refine bel_alloc _ ?_ | with_reducible refine bel_set ?_ _ ?_ | (with_reducible apply bel_call; with_reducible assumption) | (with_reducible apply bel_owg; with_reducible assumption; (focus omega)) | with_reducible exact Nat.le_refl _ | omega | (simp; done) | (simp; omega))); done) | go_keep
                    clear hK K hHeld2
                    try simp only [Act.put, List.setIfInBounds_toArray, List.set_cons_zero, List.set_cons_succ]
                    refine wpAnyH_ready (rs := [5]) (by kernel_rfl) (by simp) ?_
                    refine AllReadyH.cons (o := { dst := some 60, op := Go.Op.call { callee := Go.Callee.value (Go.Operand.func 27), args := #[Go.Operand.tmp 58, Go.Operand.tmp 59], argTypes := #[24, 28] }, type := 24, pos := "law.go:164", after := #[{ on := 3, ground := Go.Ground.data }, { on := 4, ground := Go.Ground.data }, { on := 2, ground := Go.Ground.chain }], guard := none }) rfl (fun K hK => ?_) ?_
                    · go_simp
                      (go_at_call 27; ((with_reducible refine (HB.out _ ?_).mono ?_); (focus (refine bel_out ?_; (focus (repeat' first | (with_reducible refine bel_refl ?_) | with_reducible assumption | with_reducible refine bel_drew ?_ | with_reducible refine bel_drewN _ ?_ | with_reducible refine bel_alloc _ ?_ | with_reducible refine bel_set ?_ _ ?_ | (with_reducible apply bel_call; with_reducible assumption) | (with_reducible apply bel_owg; with_reducible assumption; (focus omega)) | with_reducible exact Nat.le_refl _ | omega | (simp; done) | (simp; omega))))); rintro e w10 ⟨A10, n10, c10, B10, m10, d10, rfl, hL10, hM10, hb10x⟩; (have hb10 : Below w8.heap.size w8 w10 := by (refine bel_out ?_; (focus (repeat' first | (with_reducible refine bel_refl ?_) | with_reducible assumption | with_reducible refine bel_drew ?_ | with_reducible refine bel_drewN _ ?_ | with_reducible refine bel_alloc _ ?_ | with_reducible refine bel_set ?_ _ ?_ | (with_reducible apply bel_call; with_reducible assumption) | (with_reducible apply bel_owg; with_reducible assumption; (focus omega)) | with_reducible exact Nat.le_refl _ | omega | (simp; done) | (simp; omega))))); obtain ⟨ka10, kb10, hs10⟩ := hK2.out _ hb10; (have kca10 := Blk.cell ka10); (have kcb10 := Blk.cell kb10); (have kfa10 := Blk.frozen ka10); (have kfb10 := Blk.frozen kb10)))
                      try go_wp2_with fail
                      refine hK.out _ _ ?_ (fun hHeld4 => ?_)
                      · try dsimp only
                        first | (refine hKK.out _ ?_; (focus (repeat' first | (with_reducible refine bel_refl ?_) | with_reducible assumption | with_reducible refine bel_drew ?_ | with_reducible refine bel_drewN _ ?_ | with_reducible refine bel_alloc _ ?_ | with_reducible refine bel_set ?_ _ ?_ | (with_reducible apply bel_call; with_reducible assumption) | (with_reducible apply bel_owg; with_reducible assumption; (focus omega)) | with_reducible exact Nat.le_refl _ | omega | (simp; done) | (simp; omega))); done) | go_keep
                      clear hK K hHeld3
                      try simp only [Act.put, List.setIfInBounds_toArray, List.set_cons_zero, List.set_cons_succ]
                      refine wpAnyH_ready (rs := [6]) (by kernel_rfl) (by simp) ?_
                      refine AllReadyH.cons (o := { dst := none, op := Go.Op.store 24 (Go.Operand.tmp 6) (Go.Operand.tmp 57), type := 0, pos := "law.go:164", after := #[{ on := 2, ground := Go.Ground.data }, { on := 5, ground := Go.Ground.chain }, { on := 0, ground := Go.Ground.phase }, { on := 1, ground := Go.Ground.phase }, { on := 2, ground := Go.Ground.phase }, { on := 3, ground := Go.Ground.textOnly Go.Departure.lateStores }, { on := 4, ground := Go.Ground.textOnly Go.Departure.lateStores }, { on := 5, ground := Go.Ground.textOnly Go.Departure.lateStoresUnsure }], guard := none }) rfl (fun K hK => ?_) ?_
                      · go_simp
                        refine hK.out _ _ ?_ (fun hHeld5 => ?_)
                        · try dsimp only
                          first | (refine hKK.out _ ?_; (focus (repeat' first | (with_reducible refine bel_refl ?_) | with_reducible assumption | with_reducible refine bel_drew ?_ | with_reducible refine bel_drewN _ ?_ | with_reducible refine bel_alloc _ ?_ | with_reducible refine bel_set ?_ _ ?_ | (with_reducible apply bel_call; with_reducible assumption) | (with_reducible apply bel_owg; with_reducible assumption; (focus omega)) | with_reducible exact Nat.le_refl _ | omega | (simp; done) | (simp; omega))); done) | go_keep
                        clear hK K hHeld4
                        try simp only [Act.put, List.setIfInBounds_toArray, List.set_cons_zero, List.set_cons_succ]
                        refine wpAnyH_ready (rs := [7]) (by kernel_rfl) (by simp) ?_
                        refine AllReadyH.cons (o := { dst := none, op := Go.Op.store 24 (Go.Operand.tmp 7) (Go.Operand.tmp 60), type := 0, pos := "law.go:164", after := #[{ on := 5, ground := Go.Ground.data }, { on := 6, ground := Go.Ground.chain }, { on := 0, ground := Go.Ground.phase }, { on := 1, ground := Go.Ground.phase }, { on := 2, ground := Go.Ground.phase }, { on := 3, ground := Go.Ground.phase }, { on := 4, ground := Go.Ground.phase }, { on := 5, ground := Go.Ground.phase }, { on := 6, ground := Go.Ground.phase }], guard := none }) rfl (fun K hK => ?_) ?_
                        · go_simp
                          refine hK.out _ _ ?_ (fun hHeld6 => ?_)
                          · try dsimp only
                            first | (refine hKK.out _ ?_; (focus (repeat' first | (with_reducible refine bel_refl ?_) | with_reducible assumption | with_reducible refine bel_drew ?_ | with_reducible refine bel_drewN _ ?_ | with_reducible refine bel_alloc _ ?_ | with_reducible refine bel_set ?_ _ ?_ | (with_reducible apply bel_call; with_reducible assumption) | (with_reducible apply bel_owg; with_reducible assumption; (focus omega)) | with_reducible exact Nat.le_refl _ | omega | (simp; done) | (simp; omega))); done) | go_keep
                          clear hK K hHeld5
                          try simp only [Act.put, List.setIfInBounds_toArray, List.set_cons_zero, List.set_cons_succ]
                          refine wpAnyH_done (by kernel_rfl) ?_ _
                          go_wp2_with fail
                          go_meet
                          exact ⟨_, PS.stores (below_call hb hb10) hs10 ka10 kb10 (RdJ.below hL9 hb10x) (RdJ.below hM9 hb10x) hL10 hM10 HPn hl1n hl2n HI.out.1 HI.out.2.1 HI.out.2.2.1 HI.out.2.2.2.1 HI.out.2.2.2.2⟩
                        exact AllReadyH.nil
                      exact AllReadyH.nil
                    exact AllReadyH.nil
                  exact AllReadyH.nil
                exact AllReadyH.nil
              refine AllReadyH.cons (o := { dst := some 58, op := Go.Op.load 24 (Go.Operand.tmp 7), type := 24, pos := "law.go:164", after := #[], guard := none }) rfl (fun K hK => ?_) ?_
              · go_simp
                refine hK.out _ _ ?_ (fun hHeld1 => ?_)
                · try dsimp only
                  first | (refine hKK.out _ ?_; (focus (repeat' first | (with_reducible refine bel_refl ?_) | with_reducible assumption | with_reducible refine bel_drew ?_ | with_reducible refine bel_drewN _ ?_ | with_reducible refine bel_alloc _ ?_ | with_reducible refine bel_set ?_ _ ?_ | (with_reducible apply bel_call; with_reducible assumption) | (with_reducible apply bel_owg; with_reducible assumption; (focus omega)) | with_reducible exact Nat.le_refl _ | omega | (simp; done) | (simp; omega))); done) | go_keep
                clear hK K hHeld0
                try simp only [Act.put, List.setIfInBounds_toArray, List.set_cons_zero, List.set_cons_succ]
                refine wpAnyH_ready (rs := [0]) (by kernel_rfl) (by simp) ?_
                refine AllReadyH.cons (o := { dst := some 55, op := Go.Op.load 24 (Go.Operand.tmp 6), type := 24, pos := "law.go:164", after := #[], guard := none }) rfl (fun K hK => ?_) ?_
                · go_simp
                  refine hK.out _ _ ?_ (fun hHeld2 => ?_)
                  · try dsimp only
                    first | (refine hKK.out _ ?_; (focus (repeat' first | (with_reducible refine bel_refl ?_) | with_reducible assumption | with_reducible refine bel_drew ?_ | with_reducible refine bel_drewN _ ?_ | with_reducible refine bel_alloc _ ?_ | with_reducible refine bel_set ?_ _ ?_ | (with_reducible apply bel_call; with_reducible assumption) | (with_reducible apply bel_owg; with_reducible assumption; (focus omega)) | with_reducible exact Nat.le_refl _ | omega | (simp; done) | (simp; omega))); done) | go_keep
                  clear hK K hHeld1
                  try simp only [Act.put, List.setIfInBounds_toArray, List.set_cons_zero, List.set_cons_succ]
                  refine wpAnyH_ready (rs := [2]) (by kernel_rfl) (by simp) ?_
                  refine AllReadyH.cons (o := { dst := some 57, op := Go.Op.call { callee := Go.Callee.value (Go.Operand.func 19), args := #[Go.Operand.tmp 55, Go.Operand.tmp 56], argTypes := #[24, 28] }, type := 24, pos := "law.go:164", after := #[{ on := 0, ground := Go.Ground.data }, { on := 1, ground := Go.Ground.data }], guard := none }) rfl (fun K hK => ?_) ?_
                  · go_simp
                    (go_at_call 19; ((with_reducible refine (HA.out _ ?_).mono ?_); (focus (refine bel_out ?_; (focus (repeat' first | (with_reducible refine bel_refl ?_) | with_reducible assumption | with_reducible refine bel_drew ?_ | with_reducible refine bel_drewN _ ?_ | with_reducible refine bel_alloc _ ?_ | with_reducible refine bel_set ?_ _ ?_ | (with_reducible apply bel_call; with_reducible assumption) | (with_reducible apply bel_owg; with_reducible assumption; (focus omega)) | with_reducible exact Nat.le_refl _ | omega | (simp; done) | (simp; omega))))); rintro e w9 ⟨A9, n9, c9, B9, m9, d9, rfl, hL9, hM9, hb9x⟩; (have hb9 : Below w8.heap.size w8 w9 := by (refine bel_out ?_; (focus (repeat' first | (with_reducible refine bel_refl ?_) | with_reducible assumption | with_reducible refine bel_drew ?_ | with_reducible refine bel_drewN _ ?_ | with_reducible refine bel_alloc _ ?_ | with_reducible refine bel_set ?_ _ ?_ | (with_reducible apply bel_call; with_reducible assumption) | (with_reducible apply bel_owg; with_reducible assumption; (focus omega)) | with_reducible exact Nat.le_refl _ | omega | (simp; done) | (simp; omega))))); obtain ⟨ka9, kb9, hs9⟩ := hK2.out _ hb9; (have kca9 := Blk.cell ka9); (have kcb9 := Blk.cell kb9)))
                    try go_wp2_with fail
                    refine hK.out _ _ ?_ (fun hHeld3 => ?_)
                    · try dsimp only
                      first | (refine hKK.out _ ?_; (focus (repeat' first | (with_reducible refine bel_refl ?_) | with_reducible assumption | with_reducible refine bel_drew ?_ | with_reducible refine bel_drewN _ ?_ | with_reducible refine bel_alloc _ ?_ | with_reducible refine bel_set ?_ _ ?_ | (with_reducible apply bel_call; with_reducible assumption) | (with_reducible apply bel_owg; with_reducible assumption; (focus omega)) | with_reducible exact Nat.le_refl _ | omega | (simp; done) | (simp; omega))); done) | go_keep
                    clear hK K hHeld2
                    try simp only [Act.put, List.setIfInBounds_toArray, List.set_cons_zero, List.set_cons_succ]
                    refine wpAnyH_ready (rs := [5]) (by kernel_rfl) (by simp) ?_
                    refine AllReadyH.cons (o := { dst := some 60, op := Go.Op.call { callee := Go.Callee.value (Go.Operand.func 27), args := #[Go.Operand.tmp 58, Go.Operand.tmp 59], argTypes := #[24, 28] }, type := 24, pos := "law.go:164", after := #[{ on := 3, ground := Go.Ground.data }, { on := 4, ground := Go.Ground.data }, { on := 2, ground := Go.Ground.chain }], guard := none }) rfl (fun K hK => ?_) ?_
                    · go_simp
                      (go_at_call 27; ((with_reducible refine (HB.out _ ?_).mono ?_); (focus (refine bel_out ?_; (focus (repeat' first | (with_reducible refine bel_refl ?_) | with_reducible assumption | with_reducible refine bel_drew ?_ | with_reducible refine bel_drewN _ ?_ | with_reducible refine bel_alloc _ ?_ | with_reducible refine bel_set ?_ _ ?_ | (with_reducible apply bel_call; with_reducible assumption) | (with_reducible apply bel_owg; with_reducible assumption; (focus omega)) | with_reducible exact Nat.le_refl _ | omega | (simp; done) | (simp; omega))))); rintro e w10 ⟨A10, n10, c10, B10, m10, d10, rfl, hL10, hM10, hb10x⟩; (have hb10 : Below w8.heap.size w8 w10 := by (refine bel_out ?_; (focus (repeat' first | (with_reducible refine bel_refl ?_) | with_reducible assumption | with_reducible refine bel_drew ?_ | with_reducible refine bel_drewN _ ?_ | with_reducible refine bel_alloc _ ?_ | with_reducible refine bel_set ?_ _ ?_ | (with_reducible apply bel_call; with_reducible assumption) | (with_reducible apply bel_owg; with_reducible assumption; (focus omega)) | with_reducible exact Nat.le_refl _ | omega | (simp; done) | (simp; omega))))); obtain ⟨ka10, kb10, hs10⟩ := hK2.out _ hb10; (have kca10 := Blk.cell ka10); (have kcb10 := Blk.cell kb10); (have kfa10 := Blk.frozen ka10); (have kfb10 := Blk.frozen kb10)))
                      try go_wp2_with fail
                      refine hK.out _ _ ?_ (fun hHeld4 => ?_)
                      · try dsimp only
                        first | (refine hKK.out _ ?_; (focus (repeat' first | (with_reducible refine bel_refl ?_) | with_reducible assumption | with_reducible refine bel_drew ?_ | with_reducible refine bel_drewN _ ?_ | with_reducible refine bel_alloc _ ?_ | with_reducible refine bel_set ?_ _ ?_ | (with_reducible apply bel_call; with_reducible assumption) | (with_reducible apply bel_owg; with_reducible assumption; (focus omega)) | with_reducible exact Nat.le_refl _ | omega | (simp; done) | (simp; omega))); done) | go_keep
                      clear hK K hHeld3
                      try simp only [Act.put, List.setIfInBounds_toArray, List.set_cons_zero, List.set_cons_succ]
                      refine wpAnyH_ready (rs := [6]) (by kernel_rfl) (by simp) ?_
                      refine AllReadyH.cons (o := { dst := none, op := Go.Op.store 24 (Go.Operand.tmp 6) (Go.Operand.tmp 57), type := 0, pos := "law.go:164", after := #[{ on := 2, ground := Go.Ground.data }, { on := 5, ground := Go.Ground.chain }, { on := 0, ground := Go.Ground.phase }, { on := 1, ground := Go.Ground.phase }, { on := 2, ground := Go.Ground.phase }, { on := 3, ground := Go.Ground.textOnly Go.Departure.lateStores }, { on := 4, ground := Go.Ground.textOnly Go.Departure.lateStores }, { on := 5, ground := Go.Ground.textOnly Go.Departure.lateStoresUnsure }], guard := none }) rfl (fun K hK => ?_) ?_
                      · go_simp
                        refine hK.out _ _ ?_ (fun hHeld5 => ?_)
                        · try dsimp only
                          first | (refine hKK.out _ ?_; (focus (repeat' first | (with_reducible refine bel_refl ?_) | with_reducible assumption | with_reducible refine bel_drew ?_ | with_reducible refine bel_drewN _ ?_ | with_reducible refine bel_alloc _ ?_ | with_reducible refine bel_set ?_ _ ?_ | (with_reducible apply bel_call; with_reducible assumption) | (with_reducible apply bel_owg; with_reducible assumption; (focus omega)) | with_reducible exact Nat.le_refl _ | omega | (simp; done) | (simp; omega))); done) | go_keep
                        clear hK K hHeld4
                        try simp only [Act.put, List.setIfInBounds_toArray, List.set_cons_zero, List.set_cons_succ]
                        refine wpAnyH_ready (rs := [7]) (by kernel_rfl) (by simp) ?_
                        refine AllReadyH.cons (o := { dst := none, op := Go.Op.store 24 (Go.Operand.tmp 7) (Go.Operand.tmp 60), type := 0, pos := "law.go:164", after := #[{ on := 5, ground := Go.Ground.data }, { on := 6, ground := Go.Ground.chain }, { on := 0, ground := Go.Ground.phase }, { on := 1, ground := Go.Ground.phase }, { on := 2, ground := Go.Ground.phase }, { on := 3, ground := Go.Ground.phase }, { on := 4, ground := Go.Ground.phase }, { on := 5, ground := Go.Ground.phase }, { on := 6, ground := Go.Ground.phase }], guard := none }) rfl (fun K hK => ?_) ?_
                        · go_simp
                          refine hK.out _ _ ?_ (fun hHeld6 => ?_)
                          · try dsimp only
                            first | (refine hKK.out _ ?_; (focus (repeat' first | (with_reducible refine bel_refl ?_) | with_reducible assumption | with_reducible refine bel_drew ?_ | with_reducible refine bel_drewN _ ?_ | with_reducible refine bel_alloc _ ?_ | with_reducible refine bel_set ?_ _ ?_ | (with_reducible apply bel_call; with_reducible assumption) | (with_reducible apply bel_owg; with_reducible assumption; (focus omega)) | with_reducible exact Nat.le_refl _ | omega | (simp; done) | (simp; omega))); done) | go_keep
                          clear hK K hHeld5
                          try simp only [Act.put, List.setIfInBounds_toArray, List.set_cons_zero, List.set_cons_succ]
                          refine wpAnyH_done (by kernel_rfl) ?_ _
                          go_wp2_with fail
                          go_meet
                          exact ⟨_, PS.stores (below_call hb hb10) hs10 ka10 kb10 (RdJ.below hL9 hb10x) (RdJ.below hM9 hb10x) hL10 hM10 HPn hl1n hl2n HI.out.1 HI.out.2.1 HI.out.2.2.1 HI.out.2.2.2.1 HI.out.2.2.2.2⟩
                        exact AllReadyH.nil
                      exact AllReadyH.nil
                    exact AllReadyH.nil
                  exact AllReadyH.nil
                exact AllReadyH.nil
              exact AllReadyH.nil
            · have HA : Hid (∀ W, Below w8.heap.size w8 W → Calls Tryd.prog 19 #[.agg #[.slice Aa na ca, .slice Ba ma da], .agg #[.int .i64 j.st, .string j.us, .int .i64 j.sp, .string j.nm]] W (RRdQ W (addL L j) (M))) := Lib.hid fun W hW => add_any Aa na ca L Ba ma da M j W (RdJ.below h1 hW) (RdJ.below h2 hW) (by omega) (by omega)
              have HB : Hid (∀ W, Below w8.heap.size w8 W → Calls Tryd.prog 27 #[.agg #[.slice Ab nb cb, .slice Bb mb db], .agg #[.int .i64 j.st, .string j.us, .int .i64 j.sp, .string j.nm]] W (RRdQ W (addL L j) (M))) := Lib.hid fun W hW => radd_any Ab nb cb L Bb mb db M j W (RdJ.below h3 hW) (RdJ.below h4 hW) (by omega) (by omega)
              have HPn : Hid ((∀ a ∈ addL L j, MJ a) ∧ (∀ a ∈ M, MJ a) ∧ (addL L j).Nodup) := Lib.hid ⟨add_keeps MJ HP.out.1 hj, HP.out.2.1, add_nodup HP.out.2.2⟩
              have hl1n : (addL L j).length + k ≤ 40 := by have := addL_length L j; omega
              have hl2n : (M).length + k ≤ 40 := by omega
              clear h1 h2 h3 h4 HP hl1 hl2 hj
              obtain ⟨rL, hrL⟩ : ∃ q, q = addL L j := ⟨_, rfl⟩
              rw [← hrL] at HA HB HPn hl1n
              clear hrL
              obtain ⟨rM, hrM⟩ : ∃ q, q = M := ⟨_, rfl⟩
              rw [← hrM] at HA HB HPn hl2n
              clear hrM
              obtain ⟨st, us, sp, nm⟩ := j
              simp only [] at HA HB k9
              have kca := Blk.cell ka
              have kcb := Blk.cell kb
              have kc9 := Blk.cell k9
              have hKK : Hid (∀ W, Bel w8.heap.size w8 W → W.cell? ⟨g9, 0, none⟩ = some (.int .i64 st) ∧ W.cell? ⟨g9, 1, none⟩ = some (.string us) ∧ W.cell? ⟨g9, 2, none⟩ = some (.int .i64 sp) ∧ W.cell? ⟨g9, 3, none⟩ = some (.string nm)) := Lib.hid fun W hW => ⟨Blk.cell (heap_call hW.2 k9) 0, Blk.cell (heap_call hW.2 k9) 1, Blk.cell (heap_call hW.2 k9) 2, Blk.cell (heap_call hW.2 k9) 3⟩
              have hK2 : Hid (∀ W, Below w8.heap.size w8 W → W.heap[ga]? = some (.cells #[.slice Aa na ca, .slice Ba ma da] 24 (0, 0)) ∧ W.heap[ga + 1]? = some (.cells #[.slice Ab nb cb, .slice Bb mb db] 24 (0, 0)) ∧ SrcAt W g A n c) := Lib.hid fun W hW => ⟨heap_call hW ka, heap_call hW kb, srcAt_below hs hW⟩
              clear ka kb k9 hs
              go_upto_region 13 with fail
              have HI : Hid (w.heap.size ≤ ga ∧ w.heap.size ≤ ga + 1 ∧ ga ≠ ga + 1 ∧ g ≠ ga ∧ g ≠ ga + 1) := Lib.hid ⟨by omega, by omega, by omega, by omega, by omega⟩
              have hne1 : ga ≠ g9 := by omega
              have hne2 : ga + 1 ≠ g9 := by omega
              have hne3 : g9 ≠ ga := by omega
              have hne4 : g9 ≠ ga + 1 := by omega
              refine wp_region_held_drew (S := fun W => W.cell? ⟨g9, 0, none⟩ = some (.int .i64 st) ∧ W.cell? ⟨g9, 1, none⟩ = some (.string us) ∧ W.cell? ⟨g9, 2, none⟩ = some (.int .i64 sp) ∧ W.cell? ⟨g9, 3, none⟩ = some (.string nm)) (by kernel_rfl) ?_ (fun hHeld0 => ?_)
              · try dsimp only
                first | (refine hKK.out _ ?_; (focus (repeat' first | (with_reducible refine bel_refl ?_) | with_reducible assumption | with_reducible refine bel_drew ?_ | with_reducible refine bel_drewN _ ?_ | with_reducible refine bel_alloc _ ?_ | with_reducible refine bel_set ?_ _ ?_ | (with_reducible apply bel_call; with_reducible assumption) | (with_reducible apply bel_owg; with_reducible assumption; (focus omega)) | with_reducible exact Nat.le_refl _ | omega | (simp; done) | (simp; omega))); done) | go_keep
              refine wpAnyH_take (i := 1) (oi := { dst := some 56, op := Go.Op.load 28 (Go.Operand.tmp 9), type := 28, pos := "law.go:164", after := #[], guard := none }) (v := .agg #[.int .i64 st, .string us, .int .i64 sp, .string nm]) rfl (by kernel_rfl) (by kernel_rfl) (by kernel_rfl) (fun _ _ _ h => h) (Or.inl ⟨by rfl, ?_⟩) (by assumption) ?_
              · (intro W hSw; (try dsimp only at hSw); go_simp; try with_reducible rfl)
              try simp only [Act.put, List.setIfInBounds_toArray, List.set_cons_zero, List.set_cons_succ]
              refine wpAnyH_take (i := 4) (oi := { dst := some 59, op := Go.Op.load 28 (Go.Operand.tmp 9), type := 28, pos := "law.go:164", after := #[], guard := none }) (v := .agg #[.int .i64 st, .string us, .int .i64 sp, .string nm]) rfl (by kernel_rfl) (by kernel_rfl) (by kernel_rfl) (fun _ _ _ h => h) (Or.inl ⟨by rfl, ?_⟩) (by assumption) ?_
              · (intro W hSw; (try dsimp only at hSw); go_simp; try with_reducible rfl)
              try simp only [Act.put, List.setIfInBounds_toArray, List.set_cons_zero, List.set_cons_succ]
              refine wpAnyH_ready (rs := [0, 3]) (by kernel_rfl) (by simp) ?_
              refine AllReadyH.cons (o := { dst := some 55, op := Go.Op.load 24 (Go.Operand.tmp 6), type := 24, pos := "law.go:164", after := #[], guard := none }) rfl (fun K hK => ?_) ?_
              · go_simp
                refine hK.out _ _ ?_ (fun hHeld1 => ?_)
                · try dsimp only
                  first | (refine hKK.out _ ?_; (focus (repeat' first | (with_reducible refine bel_refl ?_) | with_reducible assumption | with_reducible refine bel_drew ?_ | with_reducible refine bel_drewN _ ?_ | with_reducible refine bel_alloc _ ?_ | with_reducible refine bel_set ?_ _ ?_ | (with_reducible apply bel_call; with_reducible assumption) | (with_reducible apply bel_owg; with_reducible assumption; (focus omega)) | with_reducible exact Nat.le_refl _ | omega | (simp; done) | (simp; omega))); done) | go_keep
                clear hK K hHeld0
                try simp only [Act.put, List.setIfInBounds_toArray, List.set_cons_zero, List.set_cons_succ]
                refine wpAnyH_ready (rs := [2, 3]) (by kernel_rfl) (by simp) ?_
                refine AllReadyH.cons (o := { dst := some 57, op := Go.Op.call { callee := Go.Callee.value (Go.Operand.func 19), args := #[Go.Operand.tmp 55, Go.Operand.tmp 56], argTypes := #[24, 28] }, type := 24, pos := "law.go:164", after := #[{ on := 0, ground := Go.Ground.data }, { on := 1, ground := Go.Ground.data }], guard := none }) rfl (fun K hK => ?_) ?_
                · go_simp
                  (go_at_call 19; ((with_reducible refine (HA.out _ ?_).mono ?_); (focus (refine bel_out ?_; (focus (repeat' first | (with_reducible refine bel_refl ?_) | with_reducible assumption | with_reducible refine bel_drew ?_ | with_reducible refine bel_drewN _ ?_ | with_reducible refine bel_alloc _ ?_ | with_reducible refine bel_set ?_ _ ?_ | (with_reducible apply bel_call; with_reducible assumption) | (with_reducible apply bel_owg; with_reducible assumption; (focus omega)) | with_reducible exact Nat.le_refl _ | omega | (simp; done) | (simp; omega))))); rintro e w9 ⟨A9, n9, c9, B9, m9, d9, rfl, hL9, hM9, hb9x⟩; (have hb9 : Below w8.heap.size w8 w9 := by (refine bel_out ?_; (focus (repeat' first | (with_reducible refine bel_refl ?_) | with_reducible assumption | with_reducible refine bel_drew ?_ | with_reducible refine bel_drewN _ ?_ | with_reducible refine bel_alloc _ ?_ | with_reducible refine bel_set ?_ _ ?_ | (with_reducible apply bel_call; with_reducible assumption) | (with_reducible apply bel_owg; with_reducible assumption; (focus omega)) | with_reducible exact Nat.le_refl _ | omega | (simp; done) | (simp; omega))))); obtain ⟨ka9, kb9, hs9⟩ := hK2.out _ hb9; (have kca9 := Blk.cell ka9); (have kcb9 := Blk.cell kb9)))
                  try go_wp2_with fail
                  refine hK.out _ _ ?_ (fun hHeld2 => ?_)
                  · try dsimp only
                    first | (refine hKK.out _ ?_; (focus (repeat' first | (with_reducible refine bel_refl ?_) | with_reducible assumption | with_reducible refine bel_drew ?_ | with_reducible refine bel_drewN _ ?_ | with_reducible refine bel_alloc _ ?_ | with_reducible refine bel_set ?_ _ ?_ | (with_reducible apply bel_call; with_reducible assumption) | (with_reducible apply bel_owg; with_reducible assumption; (focus omega)) | with_reducible exact Nat.le_refl _ | omega | (simp; done) | (simp; omega))); done) | go_keep
                  clear hK K hHeld1
                  try simp only [Act.put, List.setIfInBounds_toArray, List.set_cons_zero, List.set_cons_succ]
                  refine wpAnyH_ready (rs := [3]) (by kernel_rfl) (by simp) ?_
                  refine AllReadyH.cons (o := { dst := some 58, op := Go.Op.load 24 (Go.Operand.tmp 7), type := 24, pos := "law.go:164", after := #[], guard := none }) rfl (fun K hK => ?_) ?_
                  · go_simp
                    refine hK.out _ _ ?_ (fun hHeld3 => ?_)
                    · try dsimp only
                      first | (refine hKK.out _ ?_; (focus (repeat' first | (with_reducible refine bel_refl ?_) | with_reducible assumption | with_reducible refine bel_drew ?_ | with_reducible refine bel_drewN _ ?_ | with_reducible refine bel_alloc _ ?_ | with_reducible refine bel_set ?_ _ ?_ | (with_reducible apply bel_call; with_reducible assumption) | (with_reducible apply bel_owg; with_reducible assumption; (focus omega)) | with_reducible exact Nat.le_refl _ | omega | (simp; done) | (simp; omega))); done) | go_keep
                    clear hK K hHeld2
                    try simp only [Act.put, List.setIfInBounds_toArray, List.set_cons_zero, List.set_cons_succ]
                    refine wpAnyH_ready (rs := [5]) (by kernel_rfl) (by simp) ?_
                    refine AllReadyH.cons (o := { dst := some 60, op := Go.Op.call { callee := Go.Callee.value (Go.Operand.func 27), args := #[Go.Operand.tmp 58, Go.Operand.tmp 59], argTypes := #[24, 28] }, type := 24, pos := "law.go:164", after := #[{ on := 3, ground := Go.Ground.data }, { on := 4, ground := Go.Ground.data }, { on := 2, ground := Go.Ground.chain }], guard := none }) rfl (fun K hK => ?_) ?_
                    · go_simp
                      (go_at_call 27; ((with_reducible refine (HB.out _ ?_).mono ?_); (focus (refine bel_out ?_; (focus (repeat' first | (with_reducible refine bel_refl ?_) | with_reducible assumption | with_reducible refine bel_drew ?_ | with_reducible refine bel_drewN _ ?_ | with_reducible refine bel_alloc _ ?_ | with_reducible refine bel_set ?_ _ ?_ | (with_reducible apply bel_call; with_reducible assumption) | (with_reducible apply bel_owg; with_reducible assumption; (focus omega)) | with_reducible exact Nat.le_refl _ | omega | (simp; done) | (simp; omega))))); rintro e w10 ⟨A10, n10, c10, B10, m10, d10, rfl, hL10, hM10, hb10x⟩; (have hb10 : Below w8.heap.size w8 w10 := by (refine bel_out ?_; (focus (repeat' first | (with_reducible refine bel_refl ?_) | with_reducible assumption | with_reducible refine bel_drew ?_ | with_reducible refine bel_drewN _ ?_ | with_reducible refine bel_alloc _ ?_ | with_reducible refine bel_set ?_ _ ?_ | (with_reducible apply bel_call; with_reducible assumption) | (with_reducible apply bel_owg; with_reducible assumption; (focus omega)) | with_reducible exact Nat.le_refl _ | omega | (simp; done) | (simp; omega))))); obtain ⟨ka10, kb10, hs10⟩ := hK2.out _ hb10; (have kca10 := Blk.cell ka10); (have kcb10 := Blk.cell kb10); (have kfa10 := Blk.frozen ka10); (have kfb10 := Blk.frozen kb10)))
                      try go_wp2_with fail
                      refine hK.out _ _ ?_ (fun hHeld4 => ?_)
                      · try dsimp only
                        first | (refine hKK.out _ ?_; (focus (repeat' first | (with_reducible refine bel_refl ?_) | with_reducible assumption | with_reducible refine bel_drew ?_ | with_reducible refine bel_drewN _ ?_ | with_reducible refine bel_alloc _ ?_ | with_reducible refine bel_set ?_ _ ?_ | (with_reducible apply bel_call; with_reducible assumption) | (with_reducible apply bel_owg; with_reducible assumption; (focus omega)) | with_reducible exact Nat.le_refl _ | omega | (simp; done) | (simp; omega))); done) | go_keep
                      clear hK K hHeld3
                      try simp only [Act.put, List.setIfInBounds_toArray, List.set_cons_zero, List.set_cons_succ]
                      refine wpAnyH_ready (rs := [6]) (by kernel_rfl) (by simp) ?_
                      refine AllReadyH.cons (o := { dst := none, op := Go.Op.store 24 (Go.Operand.tmp 6) (Go.Operand.tmp 57), type := 0, pos := "law.go:164", after := #[{ on := 2, ground := Go.Ground.data }, { on := 5, ground := Go.Ground.chain }, { on := 0, ground := Go.Ground.phase }, { on := 1, ground := Go.Ground.phase }, { on := 2, ground := Go.Ground.phase }, { on := 3, ground := Go.Ground.textOnly Go.Departure.lateStores }, { on := 4, ground := Go.Ground.textOnly Go.Departure.lateStores }, { on := 5, ground := Go.Ground.textOnly Go.Departure.lateStoresUnsure }], guard := none }) rfl (fun K hK => ?_) ?_
                      · go_simp
                        refine hK.out _ _ ?_ (fun hHeld5 => ?_)
                        · try dsimp only
                          first | (refine hKK.out _ ?_; (focus (repeat' first | (with_reducible refine bel_refl ?_) | with_reducible assumption | with_reducible refine bel_drew ?_ | with_reducible refine bel_drewN _ ?_ | with_reducible refine bel_alloc _ ?_ | with_reducible refine bel_set ?_ _ ?_ | (with_reducible apply bel_call; with_reducible assumption) | (with_reducible apply bel_owg; with_reducible assumption; (focus omega)) | with_reducible exact Nat.le_refl _ | omega | (simp; done) | (simp; omega))); done) | go_keep
                        clear hK K hHeld4
                        try simp only [Act.put, List.setIfInBounds_toArray, List.set_cons_zero, List.set_cons_succ]
                        refine wpAnyH_ready (rs := [7]) (by kernel_rfl) (by simp) ?_
                        refine AllReadyH.cons (o := { dst := none, op := Go.Op.store 24 (Go.Operand.tmp 7) (Go.Operand.tmp 60), type := 0, pos := "law.go:164", after := #[{ on := 5, ground := Go.Ground.data }, { on := 6, ground := Go.Ground.chain }, { on := 0, ground := Go.Ground.phase }, { on := 1, ground := Go.Ground.phase }, { on := 2, ground := Go.Ground.phase }, { on := 3, ground := Go.Ground.phase }, { on := 4, ground := Go.Ground.phase }, { on := 5, ground := Go.Ground.phase }, { on := 6, ground := Go.Ground.phase }], guard := none }) rfl (fun K hK => ?_) ?_
                        · go_simp
                          refine hK.out _ _ ?_ (fun hHeld6 => ?_)
                          · try dsimp only
                            first | (refine hKK.out _ ?_; (focus (repeat' first | (with_reducible refine bel_refl ?_) | with_reducible assumption | with_reducible refine bel_drew ?_ | with_reducible refine bel_drewN _ ?_ | with_reducible refine bel_alloc _ ?_ | with_reducible refine bel_set ?_ _ ?_ | (with_reducible apply bel_call; with_reducible assumption) | (with_reducible apply bel_owg; with_reducible assumption; (focus omega)) | with_reducible exact Nat.le_refl _ | omega | (simp; done) | (simp; omega))); done) | go_keep
                          clear hK K hHeld5
                          try simp only [Act.put, List.setIfInBounds_toArray, List.set_cons_zero, List.set_cons_succ]
                          refine wpAnyH_done (by kernel_rfl) ?_ _
                          go_wp2_with fail
                          go_meet
                          exact ⟨_, PS.stores (below_call hb hb10) hs10 ka10 kb10 (RdJ.below hL9 hb10x) (RdJ.below hM9 hb10x) hL10 hM10 HPn hl1n hl2n HI.out.1 HI.out.2.1 HI.out.2.2.1 HI.out.2.2.2.1 HI.out.2.2.2.2⟩
                        exact AllReadyH.nil
                      exact AllReadyH.nil
                    exact AllReadyH.nil
                  exact AllReadyH.nil
                refine AllReadyH.cons (o := { dst := some 58, op := Go.Op.load 24 (Go.Operand.tmp 7), type := 24, pos := "law.go:164", after := #[], guard := none }) rfl (fun K hK => ?_) ?_
                · go_simp
                  refine hK.out _ _ ?_ (fun hHeld2 => ?_)
                  · try dsimp only
                    first | (refine hKK.out _ ?_; (focus (repeat' first | (with_reducible refine bel_refl ?_) | with_reducible assumption | with_reducible refine bel_drew ?_ | with_reducible refine bel_drewN _ ?_ | with_reducible refine bel_alloc _ ?_ | with_reducible refine bel_set ?_ _ ?_ | (with_reducible apply bel_call; with_reducible assumption) | (with_reducible apply bel_owg; with_reducible assumption; (focus omega)) | with_reducible exact Nat.le_refl _ | omega | (simp; done) | (simp; omega))); done) | go_keep
                  clear hK K hHeld1
                  try simp only [Act.put, List.setIfInBounds_toArray, List.set_cons_zero, List.set_cons_succ]
                  refine wpAnyH_ready (rs := [2]) (by kernel_rfl) (by simp) ?_
                  refine AllReadyH.cons (o := { dst := some 57, op := Go.Op.call { callee := Go.Callee.value (Go.Operand.func 19), args := #[Go.Operand.tmp 55, Go.Operand.tmp 56], argTypes := #[24, 28] }, type := 24, pos := "law.go:164", after := #[{ on := 0, ground := Go.Ground.data }, { on := 1, ground := Go.Ground.data }], guard := none }) rfl (fun K hK => ?_) ?_
                  · go_simp
                    (go_at_call 19; ((with_reducible refine (HA.out _ ?_).mono ?_); (focus (refine bel_out ?_; (focus (repeat' first | (with_reducible refine bel_refl ?_) | with_reducible assumption | with_reducible refine bel_drew ?_ | with_reducible refine bel_drewN _ ?_ | with_reducible refine bel_alloc _ ?_ | with_reducible refine bel_set ?_ _ ?_ | (with_reducible apply bel_call; with_reducible assumption) | (with_reducible apply bel_owg; with_reducible assumption; (focus omega)) | with_reducible exact Nat.le_refl _ | omega | (simp; done) | (simp; omega))))); rintro e w9 ⟨A9, n9, c9, B9, m9, d9, rfl, hL9, hM9, hb9x⟩; (have hb9 : Below w8.heap.size w8 w9 := by (refine bel_out ?_; (focus (repeat' first | (with_reducible refine bel_refl ?_) | with_reducible assumption | with_reducible refine bel_drew ?_ | with_reducible refine bel_drewN _ ?_ | with_reducible refine bel_alloc _ ?_ | with_reducible refine bel_set ?_ _ ?_ | (with_reducible apply bel_call; with_reducible assumption) | (with_reducible apply bel_owg; with_reducible assumption; (focus omega)) | with_reducible exact Nat.le_refl _ | omega | (simp; done) | (simp; omega))))); obtain ⟨ka9, kb9, hs9⟩ := hK2.out _ hb9; (have kca9 := Blk.cell ka9); (have kcb9 := Blk.cell kb9)))
                    try go_wp2_with fail
                    refine hK.out _ _ ?_ (fun hHeld3 => ?_)
                    · try dsimp only
                      first | (refine hKK.out _ ?_; (focus (repeat' first | (with_reducible refine bel_refl ?_) | with_reducible assumption | with_reducible refine bel_drew ?_ | with_reducible refine bel_drewN _ ?_ | with_reducible refine bel_alloc _ ?_ | with_reducible refine bel_set ?_ _ ?_ | (with_reducible apply bel_call; with_reducible assumption) | (with_reducible apply bel_owg; with_reducible assumption; (focus omega)) | with_reducible exact Nat.le_refl _ | omega | (simp; done) | (simp; omega))); done) | go_keep
                    clear hK K hHeld2
                    try simp only [Act.put, List.setIfInBounds_toArray, List.set_cons_zero, List.set_cons_succ]
                    refine wpAnyH_ready (rs := [5]) (by kernel_rfl) (by simp) ?_
                    refine AllReadyH.cons (o := { dst := some 60, op := Go.Op.call { callee := Go.Callee.value (Go.Operand.func 27), args := #[Go.Operand.tmp 58, Go.Operand.tmp 59], argTypes := #[24, 28] }, type := 24, pos := "law.go:164", after := #[{ on := 3, ground := Go.Ground.data }, { on := 4, ground := Go.Ground.data }, { on := 2, ground := Go.Ground.chain }], guard := none }) rfl (fun K hK => ?_) ?_
                    · go_simp
                      (go_at_call 27; ((with_reducible refine (HB.out _ ?_).mono ?_); (focus (refine bel_out ?_; (focus (repeat' first | (with_reducible refine bel_refl ?_) | with_reducible assumption | with_reducible refine bel_drew ?_ | with_reducible refine bel_drewN _ ?_ | with_reducible refine bel_alloc _ ?_ | with_reducible refine bel_set ?_ _ ?_ | (with_reducible apply bel_call; with_reducible assumption) | (with_reducible apply bel_owg; with_reducible assumption; (focus omega)) | with_reducible exact Nat.le_refl _ | omega | (simp; done) | (simp; omega))))); rintro e w10 ⟨A10, n10, c10, B10, m10, d10, rfl, hL10, hM10, hb10x⟩; (have hb10 : Below w8.heap.size w8 w10 := by (refine bel_out ?_; (focus (repeat' first | (with_reducible refine bel_refl ?_) | with_reducible assumption | with_reducible refine bel_drew ?_ | with_reducible refine bel_drewN _ ?_ | with_reducible refine bel_alloc _ ?_ | with_reducible refine bel_set ?_ _ ?_ | (with_reducible apply bel_call; with_reducible assumption) | (with_reducible apply bel_owg; with_reducible assumption; (focus omega)) | with_reducible exact Nat.le_refl _ | omega | (simp; done) | (simp; omega))))); obtain ⟨ka10, kb10, hs10⟩ := hK2.out _ hb10; (have kca10 := Blk.cell ka10); (have kcb10 := Blk.cell kb10); (have kfa10 := Blk.frozen ka10); (have kfb10 := Blk.frozen kb10)))
                      try go_wp2_with fail
                      refine hK.out _ _ ?_ (fun hHeld4 => ?_)
                      · try dsimp only
                        first | (refine hKK.out _ ?_; (focus (repeat' first | (with_reducible refine bel_refl ?_) | with_reducible assumption | with_reducible refine bel_drew ?_ | with_reducible refine bel_drewN _ ?_ | with_reducible refine bel_alloc _ ?_ | with_reducible refine bel_set ?_ _ ?_ | (with_reducible apply bel_call; with_reducible assumption) | (with_reducible apply bel_owg; with_reducible assumption; (focus omega)) | with_reducible exact Nat.le_refl _ | omega | (simp; done) | (simp; omega))); done) | go_keep
                      clear hK K hHeld3
                      try simp only [Act.put, List.setIfInBounds_toArray, List.set_cons_zero, List.set_cons_succ]
                      refine wpAnyH_ready (rs := [6]) (by kernel_rfl) (by simp) ?_
                      refine AllReadyH.cons (o := { dst := none, op := Go.Op.store 24 (Go.Operand.tmp 6) (Go.Operand.tmp 57), type := 0, pos := "law.go:164", after := #[{ on := 2, ground := Go.Ground.data }, { on := 5, ground := Go.Ground.chain }, { on := 0, ground := Go.Ground.phase }, { on := 1, ground := Go.Ground.phase }, { on := 2, ground := Go.Ground.phase }, { on := 3, ground := Go.Ground.textOnly Go.Departure.lateStores }, { on := 4, ground := Go.Ground.textOnly Go.Departure.lateStores }, { on := 5, ground := Go.Ground.textOnly Go.Departure.lateStoresUnsure }], guard := none }) rfl (fun K hK => ?_) ?_
                      · go_simp
                        refine hK.out _ _ ?_ (fun hHeld5 => ?_)
                        · try dsimp only
                          first | (refine hKK.out _ ?_; (focus (repeat' first | (with_reducible refine bel_refl ?_) | with_reducible assumption | with_reducible refine bel_drew ?_ | with_reducible refine bel_drewN _ ?_ | with_reducible refine bel_alloc _ ?_ | with_reducible refine bel_set ?_ _ ?_ | (with_reducible apply bel_call; with_reducible assumption) | (with_reducible apply bel_owg; with_reducible assumption; (focus omega)) | with_reducible exact Nat.le_refl _ | omega | (simp; done) | (simp; omega))); done) | go_keep
                        clear hK K hHeld4
                        try simp only [Act.put, List.setIfInBounds_toArray, List.set_cons_zero, List.set_cons_succ]
                        refine wpAnyH_ready (rs := [7]) (by kernel_rfl) (by simp) ?_
                        refine AllReadyH.cons (o := { dst := none, op := Go.Op.store 24 (Go.Operand.tmp 7) (Go.Operand.tmp 60), type := 0, pos := "law.go:164", after := #[{ on := 5, ground := Go.Ground.data }, { on := 6, ground := Go.Ground.chain }, { on := 0, ground := Go.Ground.phase }, { on := 1, ground := Go.Ground.phase }, { on := 2, ground := Go.Ground.phase }, { on := 3, ground := Go.Ground.phase }, { on := 4, ground := Go.Ground.phase }, { on := 5, ground := Go.Ground.phase }, { on := 6, ground := Go.Ground.phase }], guard := none }) rfl (fun K hK => ?_) ?_
                        · go_simp
                          refine hK.out _ _ ?_ (fun hHeld6 => ?_)
                          · try dsimp only
                            first | (refine hKK.out _ ?_; (focus (repeat' first | (with_reducible refine bel_refl ?_) | with_reducible assumption | with_reducible refine bel_drew ?_ | with_reducible refine bel_drewN _ ?_ | with_reducible refine bel_alloc _ ?_ | with_reducible refine bel_set ?_ _ ?_ | (with_reducible apply bel_call; with_reducible assumption) | (with_reducible apply bel_owg; with_reducible assumption; (focus omega)) | with_reducible exact Nat.le_refl _ | omega | (simp; done) | (simp; omega))); done) | go_keep
                          clear hK K hHeld5
                          try simp only [Act.put, List.setIfInBounds_toArray, List.set_cons_zero, List.set_cons_succ]
                          refine wpAnyH_done (by kernel_rfl) ?_ _
                          go_wp2_with fail
                          go_meet
                          exact ⟨_, PS.stores (below_call hb hb10) hs10 ka10 kb10 (RdJ.below hL9 hb10x) (RdJ.below hM9 hb10x) hL10 hM10 HPn hl1n hl2n HI.out.1 HI.out.2.1 HI.out.2.2.1 HI.out.2.2.2.1 HI.out.2.2.2.2⟩
                        exact AllReadyH.nil
                      exact AllReadyH.nil
                    exact AllReadyH.nil
                  exact AllReadyH.nil
                exact AllReadyH.nil
              refine AllReadyH.cons (o := { dst := some 58, op := Go.Op.load 24 (Go.Operand.tmp 7), type := 24, pos := "law.go:164", after := #[], guard := none }) rfl (fun K hK => ?_) ?_
              · go_simp
                refine hK.out _ _ ?_ (fun hHeld1 => ?_)
                · try dsimp only
                  first | (refine hKK.out _ ?_; (focus (repeat' first | (with_reducible refine bel_refl ?_) | with_reducible assumption | with_reducible refine bel_drew ?_ | with_reducible refine bel_drewN _ ?_ | with_reducible refine bel_alloc _ ?_ | with_reducible refine bel_set ?_ _ ?_ | (with_reducible apply bel_call; with_reducible assumption) | (with_reducible apply bel_owg; with_reducible assumption; (focus omega)) | with_reducible exact Nat.le_refl _ | omega | (simp; done) | (simp; omega))); done) | go_keep
                clear hK K hHeld0
                try simp only [Act.put, List.setIfInBounds_toArray, List.set_cons_zero, List.set_cons_succ]
                refine wpAnyH_ready (rs := [0]) (by kernel_rfl) (by simp) ?_
                refine AllReadyH.cons (o := { dst := some 55, op := Go.Op.load 24 (Go.Operand.tmp 6), type := 24, pos := "law.go:164", after := #[], guard := none }) rfl (fun K hK => ?_) ?_
                · go_simp
                  refine hK.out _ _ ?_ (fun hHeld2 => ?_)
                  · try dsimp only
                    first | (refine hKK.out _ ?_; (focus (repeat' first | (with_reducible refine bel_refl ?_) | with_reducible assumption | with_reducible refine bel_drew ?_ | with_reducible refine bel_drewN _ ?_ | with_reducible refine bel_alloc _ ?_ | with_reducible refine bel_set ?_ _ ?_ | (with_reducible apply bel_call; with_reducible assumption) | (with_reducible apply bel_owg; with_reducible assumption; (focus omega)) | with_reducible exact Nat.le_refl _ | omega | (simp; done) | (simp; omega))); done) | go_keep
                  clear hK K hHeld1
                  try simp only [Act.put, List.setIfInBounds_toArray, List.set_cons_zero, List.set_cons_succ]
                  refine wpAnyH_ready (rs := [2]) (by kernel_rfl) (by simp) ?_
                  refine AllReadyH.cons (o := { dst := some 57, op := Go.Op.call { callee := Go.Callee.value (Go.Operand.func 19), args := #[Go.Operand.tmp 55, Go.Operand.tmp 56], argTypes := #[24, 28] }, type := 24, pos := "law.go:164", after := #[{ on := 0, ground := Go.Ground.data }, { on := 1, ground := Go.Ground.data }], guard := none }) rfl (fun K hK => ?_) ?_
                  · go_simp
                    (go_at_call 19; ((with_reducible refine (HA.out _ ?_).mono ?_); (focus (refine bel_out ?_; (focus (repeat' first | (with_reducible refine bel_refl ?_) | with_reducible assumption | with_reducible refine bel_drew ?_ | with_reducible refine bel_drewN _ ?_ | with_reducible refine bel_alloc _ ?_ | with_reducible refine bel_set ?_ _ ?_ | (with_reducible apply bel_call; with_reducible assumption) | (with_reducible apply bel_owg; with_reducible assumption; (focus omega)) | with_reducible exact Nat.le_refl _ | omega | (simp; done) | (simp; omega))))); rintro e w9 ⟨A9, n9, c9, B9, m9, d9, rfl, hL9, hM9, hb9x⟩; (have hb9 : Below w8.heap.size w8 w9 := by (refine bel_out ?_; (focus (repeat' first | (with_reducible refine bel_refl ?_) | with_reducible assumption | with_reducible refine bel_drew ?_ | with_reducible refine bel_drewN _ ?_ | with_reducible refine bel_alloc _ ?_ | with_reducible refine bel_set ?_ _ ?_ | (with_reducible apply bel_call; with_reducible assumption) | (with_reducible apply bel_owg; with_reducible assumption; (focus omega)) | with_reducible exact Nat.le_refl _ | omega | (simp; done) | (simp; omega))))); obtain ⟨ka9, kb9, hs9⟩ := hK2.out _ hb9; (have kca9 := Blk.cell ka9); (have kcb9 := Blk.cell kb9)))
                    try go_wp2_with fail
                    refine hK.out _ _ ?_ (fun hHeld3 => ?_)
                    · try dsimp only
                      first | (refine hKK.out _ ?_; (focus (repeat' first | (with_reducible refine bel_refl ?_) | with_reducible assumption | with_reducible refine bel_drew ?_ | with_reducible refine bel_drewN _ ?_ | with_reducible refine bel_alloc _ ?_ | with_reducible refine bel_set ?_ _ ?_ | (with_reducible apply bel_call; with_reducible assumption) | (with_reducible apply bel_owg; with_reducible assumption; (focus omega)) | with_reducible exact Nat.le_refl _ | omega | (simp; done) | (simp; omega))); done) | go_keep
                    clear hK K hHeld2
                    try simp only [Act.put, List.setIfInBounds_toArray, List.set_cons_zero, List.set_cons_succ]
                    refine wpAnyH_ready (rs := [5]) (by kernel_rfl) (by simp) ?_
                    refine AllReadyH.cons (o := { dst := some 60, op := Go.Op.call { callee := Go.Callee.value (Go.Operand.func 27), args := #[Go.Operand.tmp 58, Go.Operand.tmp 59], argTypes := #[24, 28] }, type := 24, pos := "law.go:164", after := #[{ on := 3, ground := Go.Ground.data }, { on := 4, ground := Go.Ground.data }, { on := 2, ground := Go.Ground.chain }], guard := none }) rfl (fun K hK => ?_) ?_
                    · go_simp
                      (go_at_call 27; ((with_reducible refine (HB.out _ ?_).mono ?_); (focus (refine bel_out ?_; (focus (repeat' first | (with_reducible refine bel_refl ?_) | with_reducible assumption | with_reducible refine bel_drew ?_ | with_reducible refine bel_drewN _ ?_ | with_reducible refine bel_alloc _ ?_ | with_reducible refine bel_set ?_ _ ?_ | (with_reducible apply bel_call; with_reducible assumption) | (with_reducible apply bel_owg; with_reducible assumption; (focus omega)) | with_reducible exact Nat.le_refl _ | omega | (simp; done) | (simp; omega))))); rintro e w10 ⟨A10, n10, c10, B10, m10, d10, rfl, hL10, hM10, hb10x⟩; (have hb10 : Below w8.heap.size w8 w10 := by (refine bel_out ?_; (focus (repeat' first | (with_reducible refine bel_refl ?_) | with_reducible assumption | with_reducible refine bel_drew ?_ | with_reducible refine bel_drewN _ ?_ | with_reducible refine bel_alloc _ ?_ | with_reducible refine bel_set ?_ _ ?_ | (with_reducible apply bel_call; with_reducible assumption) | (with_reducible apply bel_owg; with_reducible assumption; (focus omega)) | with_reducible exact Nat.le_refl _ | omega | (simp; done) | (simp; omega))))); obtain ⟨ka10, kb10, hs10⟩ := hK2.out _ hb10; (have kca10 := Blk.cell ka10); (have kcb10 := Blk.cell kb10); (have kfa10 := Blk.frozen ka10); (have kfb10 := Blk.frozen kb10)))
                      try go_wp2_with fail
                      refine hK.out _ _ ?_ (fun hHeld4 => ?_)
                      · try dsimp only
                        first | (refine hKK.out _ ?_; (focus (repeat' first | (with_reducible refine bel_refl ?_) | with_reducible assumption | with_reducible refine bel_drew ?_ | with_reducible refine bel_drewN _ ?_ | with_reducible refine bel_alloc _ ?_ | with_reducible refine bel_set ?_ _ ?_ | (with_reducible apply bel_call; with_reducible assumption) | (with_reducible apply bel_owg; with_reducible assumption; (focus omega)) | with_reducible exact Nat.le_refl _ | omega | (simp; done) | (simp; omega))); done) | go_keep
                      clear hK K hHeld3
                      try simp only [Act.put, List.setIfInBounds_toArray, List.set_cons_zero, List.set_cons_succ]
                      refine wpAnyH_ready (rs := [6]) (by kernel_rfl) (by simp) ?_
                      refine AllReadyH.cons (o := { dst := none, op := Go.Op.store 24 (Go.Operand.tmp 6) (Go.Operand.tmp 57), type := 0, pos := "law.go:164", after := #[{ on := 2, ground := Go.Ground.data }, { on := 5, ground := Go.Ground.chain }, { on := 0, ground := Go.Ground.phase }, { on := 1, ground := Go.Ground.phase }, { on := 2, ground := Go.Ground.phase }, { on := 3, ground := Go.Ground.textOnly Go.Departure.lateStores }, { on := 4, ground := Go.Ground.textOnly Go.Departure.lateStores }, { on := 5, ground := Go.Ground.textOnly Go.Departure.lateStoresUnsure }], guard := none }) rfl (fun K hK => ?_) ?_
                      · go_simp
                        refine hK.out _ _ ?_ (fun hHeld5 => ?_)
                        · try dsimp only
                          first | (refine hKK.out _ ?_; (focus (repeat' first | (with_reducible refine bel_refl ?_) | with_reducible assumption | with_reducible refine bel_drew ?_ | with_reducible refine bel_drewN _ ?_ | with_reducible refine bel_alloc _ ?_ | with_reducible refine bel_set ?_ _ ?_ | (with_reducible apply bel_call; with_reducible assumption) | (with_reducible apply bel_owg; with_reducible assumption; (focus omega)) | with_reducible exact Nat.le_refl _ | omega | (simp; done) | (simp; omega))); done) | go_keep
                        clear hK K hHeld4
                        try simp only [Act.put, List.setIfInBounds_toArray, List.set_cons_zero, List.set_cons_succ]
                        refine wpAnyH_ready (rs := [7]) (by kernel_rfl) (by simp) ?_
                        refine AllReadyH.cons (o := { dst := none, op := Go.Op.store 24 (Go.Operand.tmp 7) (Go.Operand.tmp 60), type := 0, pos := "law.go:164", after := #[{ on := 5, ground := Go.Ground.data }, { on := 6, ground := Go.Ground.chain }, { on := 0, ground := Go.Ground.phase }, { on := 1, ground := Go.Ground.phase }, { on := 2, ground := Go.Ground.phase }, { on := 3, ground := Go.Ground.phase }, { on := 4, ground := Go.Ground.phase }, { on := 5, ground := Go.Ground.phase }, { on := 6, ground := Go.Ground.phase }], guard := none }) rfl (fun K hK => ?_) ?_
                        · go_simp
                          refine hK.out _ _ ?_ (fun hHeld6 => ?_)
                          · try dsimp only
                            first | (refine hKK.out _ ?_; (focus (repeat' first | (with_reducible refine bel_refl ?_) | with_reducible assumption | with_reducible refine bel_drew ?_ | with_reducible refine bel_drewN _ ?_ | with_reducible refine bel_alloc _ ?_ | with_reducible refine bel_set ?_ _ ?_ | (with_reducible apply bel_call; with_reducible assumption) | (with_reducible apply bel_owg; with_reducible assumption; (focus omega)) | with_reducible exact Nat.le_refl _ | omega | (simp; done) | (simp; omega))); done) | go_keep
                          clear hK K hHeld5
                          try simp only [Act.put, List.setIfInBounds_toArray, List.set_cons_zero, List.set_cons_succ]
                          refine wpAnyH_done (by kernel_rfl) ?_ _
                          go_wp2_with fail
                          go_meet
                          exact ⟨_, PS.stores (below_call hb hb10) hs10 ka10 kb10 (RdJ.below hL9 hb10x) (RdJ.below hM9 hb10x) hL10 hM10 HPn hl1n hl2n HI.out.1 HI.out.2.1 HI.out.2.2.1 HI.out.2.2.2.1 HI.out.2.2.2.2⟩
                        exact AllReadyH.nil
                      exact AllReadyH.nil
                    exact AllReadyH.nil
                  exact AllReadyH.nil
                exact AllReadyH.nil
              exact AllReadyH.nil
            · have HA : Hid (∀ W, Below w8.heap.size w8 W → Calls Tryd.prog 18 #[.agg #[.slice Aa na ca, .slice Ba ma da]] W (RTk W (tkW L M) (tkT L M) (tkJ L M) (tkOk L M))) := Lib.hid fun W hW => take_any Aa na ca L Ba ma da M x W (RdJ.below h1 hW) (RdJ.below h2 hW) (HX.out W (below_call hb hW)) (by omega) (by omega)
              have HB : Hid (∀ W, Below w8.heap.size w8 W → Calls Tryd.prog 28 #[.agg #[.slice Ab nb cb, .slice Bb mb db]] W (RTk W (tkW L M) (tkT L M) (tkJ L M) (tkOk L M))) := Lib.hid fun W hW => rtake_any Ab nb cb L Bb mb db M W (RdJ.below h3 hW) (RdJ.below h4 hW) (by omega) (by omega)
              have hkp := tk_keeps MJ HP.out.1 HP.out.2.1
              have HPn : Hid ((∀ j ∈ tkW L M, MJ j) ∧ (∀ j ∈ tkT L M, MJ j) ∧ (tkW L M).Nodup) := Lib.hid ⟨hkp.1, hkp.2, tk_nodup HP.out.2.2⟩
              have hl1n : (tkW L M).length + k ≤ 40 := by have := tkW_length L M; omega
              have hl2n : (tkT L M).length + k ≤ 40 := by have := tkT_length L M; omega
              clear h1 h2 h3 h4 HP hl1 hl2 hj hkp
              generalize tkW L M = rL at *
              generalize tkT L M = rM at *
              generalize tkJ L M = rJ at *
              generalize tkOk L M = rO at *
              obtain ⟨st, us, sp, nm⟩ := rJ
              unfold RTk Jb.val at HA HB
              simp only [] at HA HB
              have hq := fun W => run_neq_job st us sp nm st us sp nm W
              rw [decide_eq_true rfl] at hq
              have hgt := job_guard
              have HI : Hid (w.heap.size ≤ ga ∧ w.heap.size ≤ ga + 1 ∧ ga ≠ ga + 1 ∧ g ≠ ga ∧ g ≠ ga + 1) := Lib.hid ⟨by omega, by omega, by omega, by omega, by omega⟩
              have hgaz : ga + 2 ≤ w8.heap.size := Blk.lt kb
              have hgz : g < w8.heap.size := srcAt_lt hs
              have kca := Blk.cell ka
              go_wp2_with fail
              go_at_call 18
              refine (HA.out _ (Below.refl _ _)).mono ?_
              rintro e w9 ⟨A9, n9, c9, B9, m9, d9, rfl, hL9, hM9, hb9⟩
              have hal9 : Below w9.heap.size w9 ((w9.alloc (.cells #[.slice A9 n9 c9, .slice B9 m9 d9] 24)).alloc (.cells #[.int .i64 st, .string us, .int .i64 sp, .string nm] 28)) := ((Below.refl _ _).alloc (Nat.le_refl _) _).alloc (by rw [size_alloc_]; omega) _
              have hz9 := hb9.size
              go_upto_region 16 with fail
              have kq9 : ((w9.alloc (.cells #[.slice A9 n9 c9, .slice B9 m9 d9] 24)).alloc (.cells #[.int .i64 st, .string us, .int .i64 sp, .string nm] 28)).heap[w9.heap.size]? = some (.cells #[.slice A9 n9 c9, .slice B9 m9 d9] 24 (0, 0)) := heap_old (heap_new rfl)
              have kj9 : ((w9.alloc (.cells #[.slice A9 n9 c9, .slice B9 m9 d9] 24)).alloc (.cells #[.int .i64 st, .string us, .int .i64 sp, .string nm] 28)).heap[w9.heap.size + 1]? = some (.cells #[.int .i64 st, .string us, .int .i64 sp, .string nm] 28 (0, 0)) := heap_new (by rw [size_alloc_])
              have hb89 := below_call hb9 hal9
              have hL9' := RdJ.below hL9 hal9
              have hM9' := RdJ.below hM9 hal9
              have kb9 := heap_call hb89 kb
              have kcb9 := Blk.cell kb9
              have hza : w9.heap.size + 2 ≤ ((w9.alloc (.cells #[.slice A9 n9 c9, .slice B9 m9 d9] 24)).alloc (.cells #[.int .i64 st, .string us, .int .i64 sp, .string nm] 28)).heap.size := by rw [size_alloc_, size_alloc_]; omega
              generalize (w9.alloc (.cells #[.slice A9 n9 c9, .slice B9 m9 d9] 24)).alloc (.cells #[.int .i64 st, .string us, .int .i64 sp, .string nm] 28) = wa at *
              generalize w9.heap.size = ha at *
              clear hal9 hL9 hM9 hb9 kca
              go_wp2_with fail
              go_at_call 28
              refine (HB.out _ hb89).mono ?_
              rintro e w10 ⟨A10, n10, c10, B10, m10, d10, rfl, hL10, hM10, hb10⟩
              have hal10 : Below w10.heap.size w10 ((w10.alloc (.cells #[.slice A10 n10 c10, .slice B10 m10 d10] 24)).alloc (.cells #[.int .i64 st, .string us, .int .i64 sp, .string nm] 28)) := ((Below.refl _ _).alloc (Nat.le_refl _) _).alloc (by rw [size_alloc_]; omega) _
              have hz10 := hb10.size
              clear kcb9
              go_upto_region 17 with fail
              have kq10 : ((w10.alloc (.cells #[.slice A10 n10 c10, .slice B10 m10 d10] 24)).alloc (.cells #[.int .i64 st, .string us, .int .i64 sp, .string nm] 28)).heap[w10.heap.size]? = some (.cells #[.slice A10 n10 c10, .slice B10 m10 d10] 24 (0, 0)) := heap_old (heap_new rfl)
              have kj10 : ((w10.alloc (.cells #[.slice A10 n10 c10, .slice B10 m10 d10] 24)).alloc (.cells #[.int .i64 st, .string us, .int .i64 sp, .string nm] 28)).heap[w10.heap.size + 1]? = some (.cells #[.int .i64 st, .string us, .int .i64 sp, .string nm] 28 (0, 0)) := heap_new (by rw [size_alloc_])
              have hwab := below_call hb10 hal10
              have hb8b := below_call hb89 hwab
              have kq9b := heap_call hwab kq9
              have kj9b := heap_call hwab kj9
              have kab := heap_call hb8b ka
              have kbb := heap_call hb8b kb
              have hsb := srcAt_below hs hb8b
              have hL9b := RdJ.below hL9' hwab
              have hM9b := RdJ.below hM9' hwab
              have hL10b := RdJ.below hL10 hal10
              have hM10b := RdJ.below hM10 hal10
              clear hal10 hL10 hM10 hb10 hL9' hM9' hwab hb89 kq9 kj9 ka kb hs kb9 HA HB
              generalize (w10.alloc (.cells #[.slice A10 n10 c10, .slice B10 m10 d10] 24)).alloc (.cells #[.int .i64 st, .string us, .int .i64 sp, .string nm] 28) = wb at *
              generalize w10.heap.size = hc at *
              have kcj9 := Blk.cell kj9b
              have kcj10 := Blk.cell kj10
              have hro : (rO != rO) = false := bne_self_eq_false rO
              go_upto_region 19 with fail
              clear kcj9 kcj10 hq hgt kj9b kj10
              have hne1 : ga ≠ ha := by omega
              have hne2 : ga + 1 ≠ ha := by omega
              have hne3 : ga ≠ hc := by omega
              have hne4 : ga + 1 ≠ hc := by omega
              have hne5 : ha ≠ ga := by omega
              have hne6 : ha ≠ ga + 1 := by omega
              have hne7 : hc ≠ ga := by omega
              have hne8 : hc ≠ ga + 1 := by omega
              have hKK : Hid (∀ W, Bel wb.heap.size wb W → W.cell? ⟨ha, 0, none⟩ = some (.slice A9 n9 c9) ∧ W.cell? ⟨ha, 1, none⟩ = some (.slice B9 m9 d9) ∧ W.cell? ⟨hc, 0, none⟩ = some (.slice A10 n10 c10) ∧ W.cell? ⟨hc, 1, none⟩ = some (.slice B10 m10 d10)) := Lib.hid fun W hW => ⟨Blk.cell (heap_call hW.2 kq9b) 0, Blk.cell (heap_call hW.2 kq9b) 1, Blk.cell (heap_call hW.2 kq10) 0, Blk.cell (heap_call hW.2 kq10) 1⟩
              have hD : Below wb.heap.size wb wb.drew := bel_out (bel_drew (bel_refl (Nat.le_refl _)))
              have kad := heap_call hD kab
              have kbd := heap_call hD kbb
              have kca := Blk.cell kab
              have kcb := Blk.cell kbb
              have kfa := Blk.frozen kab
              have kfb := Blk.frozen kbb
              have HFin := Lib.hid (fun S' => PS.stores (k := k) (A := A) (n := n) (c := c) (below_call hb (below_call hb8b hD)) (srcAt_below hsb hD) kad kbd (RdJ.below hL9b hD) (RdJ.below hM9b hD) (RdJ.below hL10b hD) (RdJ.below hM10b hD) HPn hl1n hl2n HI.out.1 HI.out.2.1 HI.out.2.2.1 HI.out.2.2.2.1 HI.out.2.2.2.2 : Nat → _)
              clear kab kbb kad kbd hsb hL9b hM9b hL10b hM10b hb8b hD kq9b kq10
              go_region_held3 (fun W => W.cell? ⟨ha, 0, none⟩ = some (.slice A9 n9 c9) ∧ W.cell? ⟨ha, 1, none⟩ = some (.slice B9 m9 d9) ∧ W.cell? ⟨hc, 0, none⟩ = some (.slice A10 n10 c10) ∧ W.cell? ⟨hc, 1, none⟩ = some (.slice B10 m10 d10)) (first | (refine hKK.out _ ?_; (focus (repeat' first | (with_reducible refine bel_refl ?_) | with_reducible assumption | with_reducible refine bel_drew ?_ | with_reducible refine bel_drewN _ ?_ | with_reducible refine bel_alloc _ ?_ | with_reducible refine bel_set ?_ _ ?_ | (with_reducible apply bel_call; with_reducible assumption) | (with_reducible apply bel_owg; with_reducible assumption; (focus omega)) | with_reducible exact Nat.le_refl _ | omega | (simp; done) | (simp; omega))); done) | (refine S4.set2 ?_ hne1 hne3; assumption) | (refine S4.set2 ?_ hne2 hne4; assumption)) (fail)
              all_goals
                go_wp2_with fail
                go_meet
                exact ⟨_, HFin.out 0⟩
            · have HA : Hid (∀ W, Below w8.heap.size w8 W → Calls Tryd.prog 20 #[.agg #[.slice Aa na ca, .slice Ba ma da], .agg #[.int .i64 j.st, .string j.us, .int .i64 j.sp, .string j.nm]] W (RRdQ W (L) (doneL M j))) := Lib.hid fun W hW => done_any Aa na ca L Ba ma da M j W (RdJ.below h1 hW) (RdJ.below h2 hW) (by omega) (by omega)
              have HB : Hid (∀ W, Below w8.heap.size w8 W → Calls Tryd.prog 29 #[.agg #[.slice Ab nb cb, .slice Bb mb db], .agg #[.int .i64 j.st, .string j.us, .int .i64 j.sp, .string j.nm]] W (RRdQ W (L) (doneL M j))) := Lib.hid fun W hW => rdone_any Ab nb cb L Bb mb db M j W (RdJ.below h3 hW) (RdJ.below h4 hW) (by omega) (by omega)
              have HPn : Hid ((∀ a ∈ L, MJ a) ∧ (∀ a ∈ doneL M j, MJ a) ∧ (L).Nodup) := Lib.hid ⟨HP.out.1, done_keeps MJ HP.out.2.1, HP.out.2.2⟩
              have hl1n : (L).length + k ≤ 40 := by omega
              have hl2n : (doneL M j).length + k ≤ 40 := by have := doneL_length M j; omega
              clear h1 h2 h3 h4 HP hl1 hl2 hj
              obtain ⟨rL, hrL⟩ : ∃ q, q = L := ⟨_, rfl⟩
              rw [← hrL] at HA HB HPn hl1n
              clear hrL
              obtain ⟨rM, hrM⟩ : ∃ q, q = doneL M j := ⟨_, rfl⟩
              rw [← hrM] at HA HB HPn hl2n
              clear hrM
              obtain ⟨st, us, sp, nm⟩ := j
              simp only [] at HA HB k9
              have kca := Blk.cell ka
              have kcb := Blk.cell kb
              have kc9 := Blk.cell k9
              have hKK : Hid (∀ W, Bel w8.heap.size w8 W → W.cell? ⟨g9, 0, none⟩ = some (.int .i64 st) ∧ W.cell? ⟨g9, 1, none⟩ = some (.string us) ∧ W.cell? ⟨g9, 2, none⟩ = some (.int .i64 sp) ∧ W.cell? ⟨g9, 3, none⟩ = some (.string nm)) := Lib.hid fun W hW => ⟨Blk.cell (heap_call hW.2 k9) 0, Blk.cell (heap_call hW.2 k9) 1, Blk.cell (heap_call hW.2 k9) 2, Blk.cell (heap_call hW.2 k9) 3⟩
              have hK2 : Hid (∀ W, Below w8.heap.size w8 W → W.heap[ga]? = some (.cells #[.slice Aa na ca, .slice Ba ma da] 24 (0, 0)) ∧ W.heap[ga + 1]? = some (.cells #[.slice Ab nb cb, .slice Bb mb db] 24 (0, 0)) ∧ SrcAt W g A n c) := Lib.hid fun W hW => ⟨heap_call hW ka, heap_call hW kb, srcAt_below hs hW⟩
              clear ka kb k9 hs
              go_upto_region 21 with fail
              have HI : Hid (w.heap.size ≤ ga ∧ w.heap.size ≤ ga + 1 ∧ ga ≠ ga + 1 ∧ g ≠ ga ∧ g ≠ ga + 1) := Lib.hid ⟨by omega, by omega, by omega, by omega, by omega⟩
              have hne1 : ga ≠ g9 := by omega
              have hne2 : ga + 1 ≠ g9 := by omega
              have hne3 : g9 ≠ ga := by omega
              have hne4 : g9 ≠ ga + 1 := by omega
              refine wp_region_held_drew (S := fun W => W.cell? ⟨g9, 0, none⟩ = some (.int .i64 st) ∧ W.cell? ⟨g9, 1, none⟩ = some (.string us) ∧ W.cell? ⟨g9, 2, none⟩ = some (.int .i64 sp) ∧ W.cell? ⟨g9, 3, none⟩ = some (.string nm)) (by kernel_rfl) ?_ (fun hHeld0 => ?_)
              · try dsimp only
                first | (refine hKK.out _ ?_; (focus (repeat' first | (with_reducible refine bel_refl ?_) | with_reducible assumption | with_reducible refine bel_drew ?_ | with_reducible refine bel_drewN _ ?_ | with_reducible refine bel_alloc _ ?_ | with_reducible refine bel_set ?_ _ ?_ | (with_reducible apply bel_call; with_reducible assumption) | (with_reducible apply bel_owg; with_reducible assumption; (focus omega)) | with_reducible exact Nat.le_refl _ | omega | (simp; done) | (simp; omega))); done) | go_keep
              refine wpAnyH_take (i := 1) (oi := { dst := some 88, op := Go.Op.load 28 (Go.Operand.tmp 9), type := 28, pos := "law.go:173", after := #[], guard := none }) (v := .agg #[.int .i64 st, .string us, .int .i64 sp, .string nm]) rfl (by kernel_rfl) (by kernel_rfl) (by kernel_rfl) (fun _ _ _ h => h) (Or.inl ⟨by rfl, ?_⟩) (by assumption) ?_
              · (intro W hSw; (try dsimp only at hSw); go_simp; try with_reducible rfl)
              try simp only [Act.put, List.setIfInBounds_toArray, List.set_cons_zero, List.set_cons_succ]
              refine wpAnyH_take (i := 4) (oi := { dst := some 91, op := Go.Op.load 28 (Go.Operand.tmp 9), type := 28, pos := "law.go:173", after := #[], guard := none }) (v := .agg #[.int .i64 st, .string us, .int .i64 sp, .string nm]) rfl (by kernel_rfl) (by kernel_rfl) (by kernel_rfl) (fun _ _ _ h => h) (Or.inl ⟨by rfl, ?_⟩) (by assumption) ?_
              · (intro W hSw; (try dsimp only at hSw); go_simp; try with_reducible rfl)
              try simp only [Act.put, List.setIfInBounds_toArray, List.set_cons_zero, List.set_cons_succ]
              refine wpAnyH_ready (rs := [0, 3]) (by kernel_rfl) (by simp) ?_
              refine AllReadyH.cons (o := { dst := some 87, op := Go.Op.load 24 (Go.Operand.tmp 6), type := 24, pos := "law.go:173", after := #[], guard := none }) rfl (fun K hK => ?_) ?_
              · go_simp
                refine hK.out _ _ ?_ (fun hHeld1 => ?_)
                · try dsimp only
                  first | (refine hKK.out _ ?_; (focus (repeat' first | (with_reducible refine bel_refl ?_) | with_reducible assumption | with_reducible refine bel_drew ?_ | with_reducible refine bel_drewN _ ?_ | with_reducible refine bel_alloc _ ?_ | with_reducible refine bel_set ?_ _ ?_ | (with_reducible apply bel_call; with_reducible assumption) | (with_reducible apply bel_owg; with_reducible assumption; (focus omega)) | with_reducible exact Nat.le_refl _ | omega | (simp; done) | (simp; omega))); done) | go_keep
                clear hK K hHeld0
                try simp only [Act.put, List.setIfInBounds_toArray, List.set_cons_zero, List.set_cons_succ]
                refine wpAnyH_ready (rs := [2, 3]) (by kernel_rfl) (by simp) ?_
                refine AllReadyH.cons (o := { dst := some 89, op := Go.Op.call { callee := Go.Callee.value (Go.Operand.func 20), args := #[Go.Operand.tmp 87, Go.Operand.tmp 88], argTypes := #[24, 28] }, type := 24, pos := "law.go:173", after := #[{ on := 0, ground := Go.Ground.data }, { on := 1, ground := Go.Ground.data }], guard := none }) rfl (fun K hK => ?_) ?_
                · go_simp
                  (go_at_call 20; ((with_reducible refine (HA.out _ ?_).mono ?_); (focus (refine bel_out ?_; (focus (repeat' first | (with_reducible refine bel_refl ?_) | with_reducible assumption | with_reducible refine bel_drew ?_ | with_reducible refine bel_drewN _ ?_ | with_reducible refine bel_alloc _ ?_ | with_reducible refine bel_set ?_ _ ?_ | (with_reducible apply bel_call; with_reducible assumption) | (with_reducible apply bel_owg; with_reducible assumption; (focus omega)) | with_reducible exact Nat.le_refl _ | omega | (simp; done) | (simp; omega))))); rintro e w9 ⟨A9, n9, c9, B9, m9, d9, rfl, hL9, hM9, hb9x⟩; (have hb9 : Below w8.heap.size w8 w9 := by (refine bel_out ?_; (focus (repeat' first | (with_reducible refine bel_refl ?_) | with_reducible assumption | with_reducible refine bel_drew ?_ | with_reducible refine bel_drewN _ ?_ | with_reducible refine bel_alloc _ ?_ | with_reducible refine bel_set ?_ _ ?_ | (with_reducible apply bel_call; with_reducible assumption) | (with_reducible apply bel_owg; with_reducible assumption; (focus omega)) | with_reducible exact Nat.le_refl _ | omega | (simp; done) | (simp; omega))))); obtain ⟨ka9, kb9, hs9⟩ := hK2.out _ hb9; (have kca9 := Blk.cell ka9); (have kcb9 := Blk.cell kb9)))
                  try go_wp2_with fail
                  refine hK.out _ _ ?_ (fun hHeld2 => ?_)
                  · try dsimp only
                    first | (refine hKK.out _ ?_; (focus (repeat' first | (with_reducible refine bel_refl ?_) | with_reducible assumption | with_reducible refine bel_drew ?_ | with_reducible refine bel_drewN _ ?_ | with_reducible refine bel_alloc _ ?_ | with_reducible refine bel_set ?_ _ ?_ | (with_reducible apply bel_call; with_reducible assumption) | (with_reducible apply bel_owg; with_reducible assumption; (focus omega)) | with_reducible exact Nat.le_refl _ | omega | (simp; done) | (simp; omega))); done) | go_keep
                  clear hK K hHeld1
                  try simp only [Act.put, List.setIfInBounds_toArray, List.set_cons_zero, List.set_cons_succ]
                  refine wpAnyH_ready (rs := [3]) (by kernel_rfl) (by simp) ?_
                  refine AllReadyH.cons (o := { dst := some 90, op := Go.Op.load 24 (Go.Operand.tmp 7), type := 24, pos := "law.go:173", after := #[], guard := none }) rfl (fun K hK => ?_) ?_
                  · go_simp
                    refine hK.out _ _ ?_ (fun hHeld3 => ?_)
                    · try dsimp only
                      first | (refine hKK.out _ ?_; (focus (repeat' first | (with_reducible refine bel_refl ?_) | with_reducible assumption | with_reducible refine bel_drew ?_ | with_reducible refine bel_drewN _ ?_ | with_reducible refine bel_alloc _ ?_ | with_reducible refine bel_set ?_ _ ?_ | (with_reducible apply bel_call; with_reducible assumption) | (with_reducible apply bel_owg; with_reducible assumption; (focus omega)) | with_reducible exact Nat.le_refl _ | omega | (simp; done) | (simp; omega))); done) | go_keep
                    clear hK K hHeld2
                    try simp only [Act.put, List.setIfInBounds_toArray, List.set_cons_zero, List.set_cons_succ]
                    refine wpAnyH_ready (rs := [5]) (by kernel_rfl) (by simp) ?_
                    refine AllReadyH.cons (o := { dst := some 92, op := Go.Op.call { callee := Go.Callee.value (Go.Operand.func 29), args := #[Go.Operand.tmp 90, Go.Operand.tmp 91], argTypes := #[24, 28] }, type := 24, pos := "law.go:173", after := #[{ on := 3, ground := Go.Ground.data }, { on := 4, ground := Go.Ground.data }, { on := 2, ground := Go.Ground.chain }], guard := none }) rfl (fun K hK => ?_) ?_
                    · go_simp
                      (go_at_call 29; ((with_reducible refine (HB.out _ ?_).mono ?_); (focus (refine bel_out ?_; (focus (repeat' first | (with_reducible refine bel_refl ?_) | with_reducible assumption | with_reducible refine bel_drew ?_ | with_reducible refine bel_drewN _ ?_ | with_reducible refine bel_alloc _ ?_ | with_reducible refine bel_set ?_ _ ?_ | (with_reducible apply bel_call; with_reducible assumption) | (with_reducible apply bel_owg; with_reducible assumption; (focus omega)) | with_reducible exact Nat.le_refl _ | omega | (simp; done) | (simp; omega))))); rintro e w10 ⟨A10, n10, c10, B10, m10, d10, rfl, hL10, hM10, hb10x⟩; (have hb10 : Below w8.heap.size w8 w10 := by (refine bel_out ?_; (focus (repeat' first | (with_reducible refine bel_refl ?_) | with_reducible assumption | with_reducible refine bel_drew ?_ | with_reducible refine bel_drewN _ ?_ | with_reducible refine bel_alloc _ ?_ | with_reducible refine bel_set ?_ _ ?_ | (with_reducible apply bel_call; with_reducible assumption) | (with_reducible apply bel_owg; with_reducible assumption; (focus omega)) | with_reducible exact Nat.le_refl _ | omega | (simp; done) | (simp; omega))))); obtain ⟨ka10, kb10, hs10⟩ := hK2.out _ hb10; (have kca10 := Blk.cell ka10); (have kcb10 := Blk.cell kb10); (have kfa10 := Blk.frozen ka10); (have kfb10 := Blk.frozen kb10)))
                      try go_wp2_with fail
                      refine hK.out _ _ ?_ (fun hHeld4 => ?_)
                      · try dsimp only
                        first | (refine hKK.out _ ?_; (focus (repeat' first | (with_reducible refine bel_refl ?_) | with_reducible assumption | with_reducible refine bel_drew ?_ | with_reducible refine bel_drewN _ ?_ | with_reducible refine bel_alloc _ ?_ | with_reducible refine bel_set ?_ _ ?_ | (with_reducible apply bel_call; with_reducible assumption) | (with_reducible apply bel_owg; with_reducible assumption; (focus omega)) | with_reducible exact Nat.le_refl _ | omega | (simp; done) | (simp; omega))); done) | go_keep
                      clear hK K hHeld3
                      try simp only [Act.put, List.setIfInBounds_toArray, List.set_cons_zero, List.set_cons_succ]
                      refine wpAnyH_ready (rs := [6]) (by kernel_rfl) (by simp) ?_
                      refine AllReadyH.cons (o := { dst := none, op := Go.Op.store 24 (Go.Operand.tmp 6) (Go.Operand.tmp 89), type := 0, pos := "law.go:173", after := #[{ on := 2, ground := Go.Ground.data }, { on := 5, ground := Go.Ground.chain }, { on := 0, ground := Go.Ground.phase }, { on := 1, ground := Go.Ground.phase }, { on := 2, ground := Go.Ground.phase }, { on := 3, ground := Go.Ground.textOnly Go.Departure.lateStores }, { on := 4, ground := Go.Ground.textOnly Go.Departure.lateStores }, { on := 5, ground := Go.Ground.textOnly Go.Departure.lateStoresUnsure }], guard := none }) rfl (fun K hK => ?_) ?_
                      · go_simp
                        refine hK.out _ _ ?_ (fun hHeld5 => ?_)
                        · try dsimp only
                          first | (refine hKK.out _ ?_; (focus (repeat' first | (with_reducible refine bel_refl ?_) | with_reducible assumption | with_reducible refine bel_drew ?_ | with_reducible refine bel_drewN _ ?_ | with_reducible refine bel_alloc _ ?_ | with_reducible refine bel_set ?_ _ ?_ | (with_reducible apply bel_call; with_reducible assumption) | (with_reducible apply bel_owg; with_reducible assumption; (focus omega)) | with_reducible exact Nat.le_refl _ | omega | (simp; done) | (simp; omega))); done) | go_keep
                        clear hK K hHeld4
                        try simp only [Act.put, List.setIfInBounds_toArray, List.set_cons_zero, List.set_cons_succ]
                        refine wpAnyH_ready (rs := [7]) (by kernel_rfl) (by simp) ?_
                        refine AllReadyH.cons (o := { dst := none, op := Go.Op.store 24 (Go.Operand.tmp 7) (Go.Operand.tmp 92), type := 0, pos := "law.go:173", after := #[{ on := 5, ground := Go.Ground.data }, { on := 6, ground := Go.Ground.chain }, { on := 0, ground := Go.Ground.phase }, { on := 1, ground := Go.Ground.phase }, { on := 2, ground := Go.Ground.phase }, { on := 3, ground := Go.Ground.phase }, { on := 4, ground := Go.Ground.phase }, { on := 5, ground := Go.Ground.phase }, { on := 6, ground := Go.Ground.phase }], guard := none }) rfl (fun K hK => ?_) ?_
                        · go_simp
                          refine hK.out _ _ ?_ (fun hHeld6 => ?_)
                          · try dsimp only
                            first | (refine hKK.out _ ?_; (focus (repeat' first | (with_reducible refine bel_refl ?_) | with_reducible assumption | with_reducible refine bel_drew ?_ | with_reducible refine bel_drewN _ ?_ | with_reducible refine bel_alloc _ ?_ | with_reducible refine bel_set ?_ _ ?_ | (with_reducible apply bel_call; with_reducible assumption) | (with_reducible apply bel_owg; with_reducible assumption; (focus omega)) | with_reducible exact Nat.le_refl _ | omega | (simp; done) | (simp; omega))); done) | go_keep
                          clear hK K hHeld5
                          try simp only [Act.put, List.setIfInBounds_toArray, List.set_cons_zero, List.set_cons_succ]
                          refine wpAnyH_done (by kernel_rfl) ?_ _
                          go_wp2_with fail
                          go_meet
                          exact ⟨_, PS.stores (below_call hb hb10) hs10 ka10 kb10 (RdJ.below hL9 hb10x) (RdJ.below hM9 hb10x) hL10 hM10 HPn hl1n hl2n HI.out.1 HI.out.2.1 HI.out.2.2.1 HI.out.2.2.2.1 HI.out.2.2.2.2⟩
                        exact AllReadyH.nil
                      exact AllReadyH.nil
                    exact AllReadyH.nil
                  exact AllReadyH.nil
                refine AllReadyH.cons (o := { dst := some 90, op := Go.Op.load 24 (Go.Operand.tmp 7), type := 24, pos := "law.go:173", after := #[], guard := none }) rfl (fun K hK => ?_) ?_
                · go_simp
                  refine hK.out _ _ ?_ (fun hHeld2 => ?_)
                  · try dsimp only
                    first | (refine hKK.out _ ?_; (focus (repeat' first | (with_reducible refine bel_refl ?_) | with_reducible assumption | with_reducible refine bel_drew ?_ | with_reducible refine bel_drewN _ ?_ | with_reducible refine bel_alloc _ ?_ | with_reducible refine bel_set ?_ _ ?_ | (with_reducible apply bel_call; with_reducible assumption) | (with_reducible apply bel_owg; with_reducible assumption; (focus omega)) | with_reducible exact Nat.le_refl _ | omega | (simp; done) | (simp; omega))); done) | go_keep
                  clear hK K hHeld1
                  try simp only [Act.put, List.setIfInBounds_toArray, List.set_cons_zero, List.set_cons_succ]
                  refine wpAnyH_ready (rs := [2]) (by kernel_rfl) (by simp) ?_
                  refine AllReadyH.cons (o := { dst := some 89, op := Go.Op.call { callee := Go.Callee.value (Go.Operand.func 20), args := #[Go.Operand.tmp 87, Go.Operand.tmp 88], argTypes := #[24, 28] }, type := 24, pos := "law.go:173", after := #[{ on := 0, ground := Go.Ground.data }, { on := 1, ground := Go.Ground.data }], guard := none }) rfl (fun K hK => ?_) ?_
                  · go_simp
                    (go_at_call 20; ((with_reducible refine (HA.out _ ?_).mono ?_); (focus (refine bel_out ?_; (focus (repeat' first | (with_reducible refine bel_refl ?_) | with_reducible assumption | with_reducible refine bel_drew ?_ | with_reducible refine bel_drewN _ ?_ | with_reducible refine bel_alloc _ ?_ | with_reducible refine bel_set ?_ _ ?_ | (with_reducible apply bel_call; with_reducible assumption) | (with_reducible apply bel_owg; with_reducible assumption; (focus omega)) | with_reducible exact Nat.le_refl _ | omega | (simp; done) | (simp; omega))))); rintro e w9 ⟨A9, n9, c9, B9, m9, d9, rfl, hL9, hM9, hb9x⟩; (have hb9 : Below w8.heap.size w8 w9 := by (refine bel_out ?_; (focus (repeat' first | (with_reducible refine bel_refl ?_) | with_reducible assumption | with_reducible refine bel_drew ?_ | with_reducible refine bel_drewN _ ?_ | with_reducible refine bel_alloc _ ?_ | with_reducible refine bel_set ?_ _ ?_ | (with_reducible apply bel_call; with_reducible assumption) | (with_reducible apply bel_owg; with_reducible assumption; (focus omega)) | with_reducible exact Nat.le_refl _ | omega | (simp; done) | (simp; omega))))); obtain ⟨ka9, kb9, hs9⟩ := hK2.out _ hb9; (have kca9 := Blk.cell ka9); (have kcb9 := Blk.cell kb9)))
                    try go_wp2_with fail
                    refine hK.out _ _ ?_ (fun hHeld3 => ?_)
                    · try dsimp only
                      first | (refine hKK.out _ ?_; (focus (repeat' first | (with_reducible refine bel_refl ?_) | with_reducible assumption | with_reducible refine bel_drew ?_ | with_reducible refine bel_drewN _ ?_ | with_reducible refine bel_alloc _ ?_ | with_reducible refine bel_set ?_ _ ?_ | (with_reducible apply bel_call; with_reducible assumption) | (with_reducible apply bel_owg; with_reducible assumption; (focus omega)) | with_reducible exact Nat.le_refl _ | omega | (simp; done) | (simp; omega))); done) | go_keep
                    clear hK K hHeld2
                    try simp only [Act.put, List.setIfInBounds_toArray, List.set_cons_zero, List.set_cons_succ]
                    refine wpAnyH_ready (rs := [5]) (by kernel_rfl) (by simp) ?_
                    refine AllReadyH.cons (o := { dst := some 92, op := Go.Op.call { callee := Go.Callee.value (Go.Operand.func 29), args := #[Go.Operand.tmp 90, Go.Operand.tmp 91], argTypes := #[24, 28] }, type := 24, pos := "law.go:173", after := #[{ on := 3, ground := Go.Ground.data }, { on := 4, ground := Go.Ground.data }, { on := 2, ground := Go.Ground.chain }], guard := none }) rfl (fun K hK => ?_) ?_
                    · go_simp
                      (go_at_call 29; ((with_reducible refine (HB.out _ ?_).mono ?_); (focus (refine bel_out ?_; (focus (repeat' first | (with_reducible refine bel_refl ?_) | with_reducible assumption | with_reducible refine bel_drew ?_ | with_reducible refine bel_drewN _ ?_ | with_reducible refine bel_alloc _ ?_ | with_reducible refine bel_set ?_ _ ?_ | (with_reducible apply bel_call; with_reducible assumption) | (with_reducible apply bel_owg; with_reducible assumption; (focus omega)) | with_reducible exact Nat.le_refl _ | omega | (simp; done) | (simp; omega))))); rintro e w10 ⟨A10, n10, c10, B10, m10, d10, rfl, hL10, hM10, hb10x⟩; (have hb10 : Below w8.heap.size w8 w10 := by (refine bel_out ?_; (focus (repeat' first | (with_reducible refine bel_refl ?_) | with_reducible assumption | with_reducible refine bel_drew ?_ | with_reducible refine bel_drewN _ ?_ | with_reducible refine bel_alloc _ ?_ | with_reducible refine bel_set ?_ _ ?_ | (with_reducible apply bel_call; with_reducible assumption) | (with_reducible apply bel_owg; with_reducible assumption; (focus omega)) | with_reducible exact Nat.le_refl _ | omega | (simp; done) | (simp; omega))))); obtain ⟨ka10, kb10, hs10⟩ := hK2.out _ hb10; (have kca10 := Blk.cell ka10); (have kcb10 := Blk.cell kb10); (have kfa10 := Blk.frozen ka10); (have kfb10 := Blk.frozen kb10)))
                      try go_wp2_with fail
                      refine hK.out _ _ ?_ (fun hHeld4 => ?_)
                      · try dsimp only
                        first | (refine hKK.out _ ?_; (focus (repeat' first | (with_reducible refine bel_refl ?_) | with_reducible assumption | with_reducible refine bel_drew ?_ | with_reducible refine bel_drewN _ ?_ | with_reducible refine bel_alloc _ ?_ | with_reducible refine bel_set ?_ _ ?_ | (with_reducible apply bel_call; with_reducible assumption) | (with_reducible apply bel_owg; with_reducible assumption; (focus omega)) | with_reducible exact Nat.le_refl _ | omega | (simp; done) | (simp; omega))); done) | go_keep
                      clear hK K hHeld3
                      try simp only [Act.put, List.setIfInBounds_toArray, List.set_cons_zero, List.set_cons_succ]
                      refine wpAnyH_ready (rs := [6]) (by kernel_rfl) (by simp) ?_
                      refine AllReadyH.cons (o := { dst := none, op := Go.Op.store 24 (Go.Operand.tmp 6) (Go.Operand.tmp 89), type := 0, pos := "law.go:173", after := #[{ on := 2, ground := Go.Ground.data }, { on := 5, ground := Go.Ground.chain }, { on := 0, ground := Go.Ground.phase }, { on := 1, ground := Go.Ground.phase }, { on := 2, ground := Go.Ground.phase }, { on := 3, ground := Go.Ground.textOnly Go.Departure.lateStores }, { on := 4, ground := Go.Ground.textOnly Go.Departure.lateStores }, { on := 5, ground := Go.Ground.textOnly Go.Departure.lateStoresUnsure }], guard := none }) rfl (fun K hK => ?_) ?_
                      · go_simp
                        refine hK.out _ _ ?_ (fun hHeld5 => ?_)
                        · try dsimp only
                          first | (refine hKK.out _ ?_; (focus (repeat' first | (with_reducible refine bel_refl ?_) | with_reducible assumption | with_reducible refine bel_drew ?_ | with_reducible refine bel_drewN _ ?_ | with_reducible refine bel_alloc _ ?_ | with_reducible refine bel_set ?_ _ ?_ | (with_reducible apply bel_call; with_reducible assumption) | (with_reducible apply bel_owg; with_reducible assumption; (focus omega)) | with_reducible exact Nat.le_refl _ | omega | (simp; done) | (simp; omega))); done) | go_keep
                        clear hK K hHeld4
                        try simp only [Act.put, List.setIfInBounds_toArray, List.set_cons_zero, List.set_cons_succ]
                        refine wpAnyH_ready (rs := [7]) (by kernel_rfl) (by simp) ?_
                        refine AllReadyH.cons (o := { dst := none, op := Go.Op.store 24 (Go.Operand.tmp 7) (Go.Operand.tmp 92), type := 0, pos := "law.go:173", after := #[{ on := 5, ground := Go.Ground.data }, { on := 6, ground := Go.Ground.chain }, { on := 0, ground := Go.Ground.phase }, { on := 1, ground := Go.Ground.phase }, { on := 2, ground := Go.Ground.phase }, { on := 3, ground := Go.Ground.phase }, { on := 4, ground := Go.Ground.phase }, { on := 5, ground := Go.Ground.phase }, { on := 6, ground := Go.Ground.phase }], guard := none }) rfl (fun K hK => ?_) ?_
                        · go_simp
                          refine hK.out _ _ ?_ (fun hHeld6 => ?_)
                          · try dsimp only
                            first | (refine hKK.out _ ?_; (focus (repeat' first | (with_reducible refine bel_refl ?_) | with_reducible assumption | with_reducible refine bel_drew ?_ | with_reducible refine bel_drewN _ ?_ | with_reducible refine bel_alloc _ ?_ | with_reducible refine bel_set ?_ _ ?_ | (with_reducible apply bel_call; with_reducible assumption) | (with_reducible apply bel_owg; with_reducible assumption; (focus omega)) | with_reducible exact Nat.le_refl _ | omega | (simp; done) | (simp; omega))); done) | go_keep
                          clear hK K hHeld5
                          try simp only [Act.put, List.setIfInBounds_toArray, List.set_cons_zero, List.set_cons_succ]
                          refine wpAnyH_done (by kernel_rfl) ?_ _
                          go_wp2_with fail
                          go_meet
                          exact ⟨_, PS.stores (below_call hb hb10) hs10 ka10 kb10 (RdJ.below hL9 hb10x) (RdJ.below hM9 hb10x) hL10 hM10 HPn hl1n hl2n HI.out.1 HI.out.2.1 HI.out.2.2.1 HI.out.2.2.2.1 HI.out.2.2.2.2⟩
                        exact AllReadyH.nil
                      exact AllReadyH.nil
                    exact AllReadyH.nil
                  exact AllReadyH.nil
                exact AllReadyH.nil
              refine AllReadyH.cons (o := { dst := some 90, op := Go.Op.load 24 (Go.Operand.tmp 7), type := 24, pos := "law.go:173", after := #[], guard := none }) rfl (fun K hK => ?_) ?_
              · go_simp
                refine hK.out _ _ ?_ (fun hHeld1 => ?_)
                · try dsimp only
                  first | (refine hKK.out _ ?_; (focus (repeat' first | (with_reducible refine bel_refl ?_) | with_reducible assumption | with_reducible refine bel_drew ?_ | with_reducible refine bel_drewN _ ?_ | with_reducible refine bel_alloc _ ?_ | with_reducible refine bel_set ?_ _ ?_ | (with_reducible apply bel_call; with_reducible assumption) | (with_reducible apply bel_owg; with_reducible assumption; (focus omega)) | with_reducible exact Nat.le_refl _ | omega | (simp; done) | (simp; omega))); done) | go_keep
                clear hK K hHeld0
                try simp only [Act.put, List.setIfInBounds_toArray, List.set_cons_zero, List.set_cons_succ]
                refine wpAnyH_ready (rs := [0]) (by kernel_rfl) (by simp) ?_
                refine AllReadyH.cons (o := { dst := some 87, op := Go.Op.load 24 (Go.Operand.tmp 6), type := 24, pos := "law.go:173", after := #[], guard := none }) rfl (fun K hK => ?_) ?_
                · go_simp
                  refine hK.out _ _ ?_ (fun hHeld2 => ?_)
                  · try dsimp only
                    first | (refine hKK.out _ ?_; (focus (repeat' first | (with_reducible refine bel_refl ?_) | with_reducible assumption | with_reducible refine bel_drew ?_ | with_reducible refine bel_drewN _ ?_ | with_reducible refine bel_alloc _ ?_ | with_reducible refine bel_set ?_ _ ?_ | (with_reducible apply bel_call; with_reducible assumption) | (with_reducible apply bel_owg; with_reducible assumption; (focus omega)) | with_reducible exact Nat.le_refl _ | omega | (simp; done) | (simp; omega))); done) | go_keep
                  clear hK K hHeld1
                  try simp only [Act.put, List.setIfInBounds_toArray, List.set_cons_zero, List.set_cons_succ]
                  refine wpAnyH_ready (rs := [2]) (by kernel_rfl) (by simp) ?_
                  refine AllReadyH.cons (o := { dst := some 89, op := Go.Op.call { callee := Go.Callee.value (Go.Operand.func 20), args := #[Go.Operand.tmp 87, Go.Operand.tmp 88], argTypes := #[24, 28] }, type := 24, pos := "law.go:173", after := #[{ on := 0, ground := Go.Ground.data }, { on := 1, ground := Go.Ground.data }], guard := none }) rfl (fun K hK => ?_) ?_
                  · go_simp
                    (go_at_call 20; ((with_reducible refine (HA.out _ ?_).mono ?_); (focus (refine bel_out ?_; (focus (repeat' first | (with_reducible refine bel_refl ?_) | with_reducible assumption | with_reducible refine bel_drew ?_ | with_reducible refine bel_drewN _ ?_ | with_reducible refine bel_alloc _ ?_ | with_reducible refine bel_set ?_ _ ?_ | (with_reducible apply bel_call; with_reducible assumption) | (with_reducible apply bel_owg; with_reducible assumption; (focus omega)) | with_reducible exact Nat.le_refl _ | omega | (simp; done) | (simp; omega))))); rintro e w9 ⟨A9, n9, c9, B9, m9, d9, rfl, hL9, hM9, hb9x⟩; (have hb9 : Below w8.heap.size w8 w9 := by (refine bel_out ?_; (focus (repeat' first | (with_reducible refine bel_refl ?_) | with_reducible assumption | with_reducible refine bel_drew ?_ | with_reducible refine bel_drewN _ ?_ | with_reducible refine bel_alloc _ ?_ | with_reducible refine bel_set ?_ _ ?_ | (with_reducible apply bel_call; with_reducible assumption) | (with_reducible apply bel_owg; with_reducible assumption; (focus omega)) | with_reducible exact Nat.le_refl _ | omega | (simp; done) | (simp; omega))))); obtain ⟨ka9, kb9, hs9⟩ := hK2.out _ hb9; (have kca9 := Blk.cell ka9); (have kcb9 := Blk.cell kb9)))
                    try go_wp2_with fail
                    refine hK.out _ _ ?_ (fun hHeld3 => ?_)
                    · try dsimp only
                      first | (refine hKK.out _ ?_; (focus (repeat' first | (with_reducible refine bel_refl ?_) | with_reducible assumption | with_reducible refine bel_drew ?_ | with_reducible refine bel_drewN _ ?_ | with_reducible refine bel_alloc _ ?_ | with_reducible refine bel_set ?_ _ ?_ | (with_reducible apply bel_call; with_reducible assumption) | (with_reducible apply bel_owg; with_reducible assumption; (focus omega)) | with_reducible exact Nat.le_refl _ | omega | (simp; done) | (simp; omega))); done) | go_keep
                    clear hK K hHeld2
                    try simp only [Act.put, List.setIfInBounds_toArray, List.set_cons_zero, List.set_cons_succ]
                    refine wpAnyH_ready (rs := [5]) (by kernel_rfl) (by simp) ?_
                    refine AllReadyH.cons (o := { dst := some 92, op := Go.Op.call { callee := Go.Callee.value (Go.Operand.func 29), args := #[Go.Operand.tmp 90, Go.Operand.tmp 91], argTypes := #[24, 28] }, type := 24, pos := "law.go:173", after := #[{ on := 3, ground := Go.Ground.data }, { on := 4, ground := Go.Ground.data }, { on := 2, ground := Go.Ground.chain }], guard := none }) rfl (fun K hK => ?_) ?_
                    · go_simp
                      (go_at_call 29; ((with_reducible refine (HB.out _ ?_).mono ?_); (focus (refine bel_out ?_; (focus (repeat' first | (with_reducible refine bel_refl ?_) | with_reducible assumption | with_reducible refine bel_drew ?_ | with_reducible refine bel_drewN _ ?_ | with_reducible refine bel_alloc _ ?_ | with_reducible refine bel_set ?_ _ ?_ | (with_reducible apply bel_call; with_reducible assumption) | (with_reducible apply bel_owg; with_reducible assumption; (focus omega)) | with_reducible exact Nat.le_refl _ | omega | (simp; done) | (simp; omega))))); rintro e w10 ⟨A10, n10, c10, B10, m10, d10, rfl, hL10, hM10, hb10x⟩; (have hb10 : Below w8.heap.size w8 w10 := by (refine bel_out ?_; (focus (repeat' first | (with_reducible refine bel_refl ?_) | with_reducible assumption | with_reducible refine bel_drew ?_ | with_reducible refine bel_drewN _ ?_ | with_reducible refine bel_alloc _ ?_ | with_reducible refine bel_set ?_ _ ?_ | (with_reducible apply bel_call; with_reducible assumption) | (with_reducible apply bel_owg; with_reducible assumption; (focus omega)) | with_reducible exact Nat.le_refl _ | omega | (simp; done) | (simp; omega))))); obtain ⟨ka10, kb10, hs10⟩ := hK2.out _ hb10; (have kca10 := Blk.cell ka10); (have kcb10 := Blk.cell kb10); (have kfa10 := Blk.frozen ka10); (have kfb10 := Blk.frozen kb10)))
                      try go_wp2_with fail
                      refine hK.out _ _ ?_ (fun hHeld4 => ?_)
                      · try dsimp only
                        first | (refine hKK.out _ ?_; (focus (repeat' first | (with_reducible refine bel_refl ?_) | with_reducible assumption | with_reducible refine bel_drew ?_ | with_reducible refine bel_drewN _ ?_ | with_reducible refine bel_alloc _ ?_ | with_reducible refine bel_set ?_ _ ?_ | (with_reducible apply bel_call; with_reducible assumption) | (with_reducible apply bel_owg; with_reducible assumption; (focus omega)) | with_reducible exact Nat.le_refl _ | omega | (simp; done) | (simp; omega))); done) | go_keep
                      clear hK K hHeld3
                      try simp only [Act.put, List.setIfInBounds_toArray, List.set_cons_zero, List.set_cons_succ]
                      refine wpAnyH_ready (rs := [6]) (by kernel_rfl) (by simp) ?_
                      refine AllReadyH.cons (o := { dst := none, op := Go.Op.store 24 (Go.Operand.tmp 6) (Go.Operand.tmp 89), type := 0, pos := "law.go:173", after := #[{ on := 2, ground := Go.Ground.data }, { on := 5, ground := Go.Ground.chain }, { on := 0, ground := Go.Ground.phase }, { on := 1, ground := Go.Ground.phase }, { on := 2, ground := Go.Ground.phase }, { on := 3, ground := Go.Ground.textOnly Go.Departure.lateStores }, { on := 4, ground := Go.Ground.textOnly Go.Departure.lateStores }, { on := 5, ground := Go.Ground.textOnly Go.Departure.lateStoresUnsure }], guard := none }) rfl (fun K hK => ?_) ?_
                      · go_simp
                        refine hK.out _ _ ?_ (fun hHeld5 => ?_)
                        · try dsimp only
                          first | (refine hKK.out _ ?_; (focus (repeat' first | (with_reducible refine bel_refl ?_) | with_reducible assumption | with_reducible refine bel_drew ?_ | with_reducible refine bel_drewN _ ?_ | with_reducible refine bel_alloc _ ?_ | with_reducible refine bel_set ?_ _ ?_ | (with_reducible apply bel_call; with_reducible assumption) | (with_reducible apply bel_owg; with_reducible assumption; (focus omega)) | with_reducible exact Nat.le_refl _ | omega | (simp; done) | (simp; omega))); done) | go_keep
                        clear hK K hHeld4
                        try simp only [Act.put, List.setIfInBounds_toArray, List.set_cons_zero, List.set_cons_succ]
                        refine wpAnyH_ready (rs := [7]) (by kernel_rfl) (by simp) ?_
                        refine AllReadyH.cons (o := { dst := none, op := Go.Op.store 24 (Go.Operand.tmp 7) (Go.Operand.tmp 92), type := 0, pos := "law.go:173", after := #[{ on := 5, ground := Go.Ground.data }, { on := 6, ground := Go.Ground.chain }, { on := 0, ground := Go.Ground.phase }, { on := 1, ground := Go.Ground.phase }, { on := 2, ground := Go.Ground.phase }, { on := 3, ground := Go.Ground.phase }, { on := 4, ground := Go.Ground.phase }, { on := 5, ground := Go.Ground.phase }, { on := 6, ground := Go.Ground.phase }], guard := none }) rfl (fun K hK => ?_) ?_
                        · go_simp
                          refine hK.out _ _ ?_ (fun hHeld6 => ?_)
                          · try dsimp only
                            first | (refine hKK.out _ ?_; (focus (repeat' first | (with_reducible refine bel_refl ?_) | with_reducible assumption | with_reducible refine bel_drew ?_ | with_reducible refine bel_drewN _ ?_ | with_reducible refine bel_alloc _ ?_ | with_reducible refine bel_set ?_ _ ?_ | (with_reducible apply bel_call; with_reducible assumption) | (with_reducible apply bel_owg; with_reducible assumption; (focus omega)) | with_reducible exact Nat.le_refl _ | omega | (simp; done) | (simp; omega))); done) | go_keep
                          clear hK K hHeld5
                          try simp only [Act.put, List.setIfInBounds_toArray, List.set_cons_zero, List.set_cons_succ]
                          refine wpAnyH_done (by kernel_rfl) ?_ _
                          go_wp2_with fail
                          go_meet
                          exact ⟨_, PS.stores (below_call hb hb10) hs10 ka10 kb10 (RdJ.below hL9 hb10x) (RdJ.below hM9 hb10x) hL10 hM10 HPn hl1n hl2n HI.out.1 HI.out.2.1 HI.out.2.2.1 HI.out.2.2.2.1 HI.out.2.2.2.2⟩
                        exact AllReadyH.nil
                      exact AllReadyH.nil
                    exact AllReadyH.nil
                  exact AllReadyH.nil
                exact AllReadyH.nil
              exact AllReadyH.nil
            · have HA : Hid (∀ W, Below w8.heap.size w8 W → Calls Tryd.prog 21 #[.agg #[.slice Aa na ca, .slice Ba ma da], .agg #[.int .i64 j.st, .string j.us, .int .i64 j.sp, .string j.nm]] W (RRdQ W (addL L j) (doneL M j))) := Lib.hid fun W hW => back_any Aa na ca L Ba ma da M j W (RdJ.below h1 hW) (RdJ.below h2 hW) (by omega) (by omega)
              have HB : Hid (∀ W, Below w8.heap.size w8 W → Calls Tryd.prog 30 #[.agg #[.slice Ab nb cb, .slice Bb mb db], .agg #[.int .i64 j.st, .string j.us, .int .i64 j.sp, .string j.nm]] W (RRdQ W (addL L j) (doneL M j))) := Lib.hid fun W hW => rback_any Ab nb cb L Bb mb db M j W (RdJ.below h3 hW) (RdJ.below h4 hW) (by omega) (by omega)
              have HPn : Hid ((∀ a ∈ addL L j, MJ a) ∧ (∀ a ∈ doneL M j, MJ a) ∧ (addL L j).Nodup) := Lib.hid ⟨add_keeps MJ HP.out.1 hj, done_keeps MJ HP.out.2.1, add_nodup HP.out.2.2⟩
              have hl1n : (addL L j).length + k ≤ 40 := by have := addL_length L j; omega
              have hl2n : (doneL M j).length + k ≤ 40 := by have := doneL_length M j; omega
              clear h1 h2 h3 h4 HP hl1 hl2 hj
              obtain ⟨rL, hrL⟩ : ∃ q, q = addL L j := ⟨_, rfl⟩
              rw [← hrL] at HA HB HPn hl1n
              clear hrL
              obtain ⟨rM, hrM⟩ : ∃ q, q = doneL M j := ⟨_, rfl⟩
              rw [← hrM] at HA HB HPn hl2n
              clear hrM
              obtain ⟨st, us, sp, nm⟩ := j
              simp only [] at HA HB k9
              have kca := Blk.cell ka
              have kcb := Blk.cell kb
              have kc9 := Blk.cell k9
              have hKK : Hid (∀ W, Bel w8.heap.size w8 W → W.cell? ⟨g9, 0, none⟩ = some (.int .i64 st) ∧ W.cell? ⟨g9, 1, none⟩ = some (.string us) ∧ W.cell? ⟨g9, 2, none⟩ = some (.int .i64 sp) ∧ W.cell? ⟨g9, 3, none⟩ = some (.string nm)) := Lib.hid fun W hW => ⟨Blk.cell (heap_call hW.2 k9) 0, Blk.cell (heap_call hW.2 k9) 1, Blk.cell (heap_call hW.2 k9) 2, Blk.cell (heap_call hW.2 k9) 3⟩
              have hK2 : Hid (∀ W, Below w8.heap.size w8 W → W.heap[ga]? = some (.cells #[.slice Aa na ca, .slice Ba ma da] 24 (0, 0)) ∧ W.heap[ga + 1]? = some (.cells #[.slice Ab nb cb, .slice Bb mb db] 24 (0, 0)) ∧ SrcAt W g A n c) := Lib.hid fun W hW => ⟨heap_call hW ka, heap_call hW kb, srcAt_below hs hW⟩
              clear ka kb k9 hs
              go_upto_region 10 with fail
              have HI : Hid (w.heap.size ≤ ga ∧ w.heap.size ≤ ga + 1 ∧ ga ≠ ga + 1 ∧ g ≠ ga ∧ g ≠ ga + 1) := Lib.hid ⟨by omega, by omega, by omega, by omega, by omega⟩
              have hne1 : ga ≠ g9 := by omega
              have hne2 : ga + 1 ≠ g9 := by omega
              have hne3 : g9 ≠ ga := by omega
              have hne4 : g9 ≠ ga + 1 := by omega
              refine wp_region_held_drew (S := fun W => W.cell? ⟨g9, 0, none⟩ = some (.int .i64 st) ∧ W.cell? ⟨g9, 1, none⟩ = some (.string us) ∧ W.cell? ⟨g9, 2, none⟩ = some (.int .i64 sp) ∧ W.cell? ⟨g9, 3, none⟩ = some (.string nm)) (by kernel_rfl) ?_ (fun hHeld0 => ?_)
              · try dsimp only
                first | (refine hKK.out _ ?_; (focus (repeat' first | (with_reducible refine bel_refl ?_) | with_reducible assumption | with_reducible refine bel_drew ?_ | with_reducible refine bel_drewN _ ?_ | with_reducible refine bel_alloc _ ?_ | with_reducible refine bel_set ?_ _ ?_ | (with_reducible apply bel_call; with_reducible assumption) | (with_reducible apply bel_owg; with_reducible assumption; (focus omega)) | with_reducible exact Nat.le_refl _ | omega | (simp; done) | (simp; omega))); done) | go_keep
              refine wpAnyH_take (i := 1) (oi := { dst := some 47, op := Go.Op.load 28 (Go.Operand.tmp 9), type := 28, pos := "law.go:175", after := #[], guard := none }) (v := .agg #[.int .i64 st, .string us, .int .i64 sp, .string nm]) rfl (by kernel_rfl) (by kernel_rfl) (by kernel_rfl) (fun _ _ _ h => h) (Or.inl ⟨by rfl, ?_⟩) (by assumption) ?_
              · (intro W hSw; (try dsimp only at hSw); go_simp; try with_reducible rfl)
              try simp only [Act.put, List.setIfInBounds_toArray, List.set_cons_zero, List.set_cons_succ]
              refine wpAnyH_take (i := 4) (oi := { dst := some 50, op := Go.Op.load 28 (Go.Operand.tmp 9), type := 28, pos := "law.go:175", after := #[], guard := none }) (v := .agg #[.int .i64 st, .string us, .int .i64 sp, .string nm]) rfl (by kernel_rfl) (by kernel_rfl) (by kernel_rfl) (fun _ _ _ h => h) (Or.inl ⟨by rfl, ?_⟩) (by assumption) ?_
              · (intro W hSw; (try dsimp only at hSw); go_simp; try with_reducible rfl)
              try simp only [Act.put, List.setIfInBounds_toArray, List.set_cons_zero, List.set_cons_succ]
              refine wpAnyH_ready (rs := [0, 3]) (by kernel_rfl) (by simp) ?_
              refine AllReadyH.cons (o := { dst := some 46, op := Go.Op.load 24 (Go.Operand.tmp 6), type := 24, pos := "law.go:175", after := #[], guard := none }) rfl (fun K hK => ?_) ?_
              · go_simp
                refine hK.out _ _ ?_ (fun hHeld1 => ?_)
                · try dsimp only
                  first | (refine hKK.out _ ?_; (focus (repeat' first | (with_reducible refine bel_refl ?_) | with_reducible assumption | with_reducible refine bel_drew ?_ | with_reducible refine bel_drewN _ ?_ | with_reducible refine bel_alloc _ ?_ | with_reducible refine bel_set ?_ _ ?_ | (with_reducible apply bel_call; with_reducible assumption) | (with_reducible apply bel_owg; with_reducible assumption; (focus omega)) | with_reducible exact Nat.le_refl _ | omega | (simp; done) | (simp; omega))); done) | go_keep
                clear hK K hHeld0
                try simp only [Act.put, List.setIfInBounds_toArray, List.set_cons_zero, List.set_cons_succ]
                refine wpAnyH_ready (rs := [2, 3]) (by kernel_rfl) (by simp) ?_
                refine AllReadyH.cons (o := { dst := some 48, op := Go.Op.call { callee := Go.Callee.value (Go.Operand.func 21), args := #[Go.Operand.tmp 46, Go.Operand.tmp 47], argTypes := #[24, 28] }, type := 24, pos := "law.go:175", after := #[{ on := 0, ground := Go.Ground.data }, { on := 1, ground := Go.Ground.data }], guard := none }) rfl (fun K hK => ?_) ?_
                · go_simp
                  (go_at_call 21; ((with_reducible refine (HA.out _ ?_).mono ?_); (focus (refine bel_out ?_; (focus (repeat' first | (with_reducible refine bel_refl ?_) | with_reducible assumption | with_reducible refine bel_drew ?_ | with_reducible refine bel_drewN _ ?_ | with_reducible refine bel_alloc _ ?_ | with_reducible refine bel_set ?_ _ ?_ | (with_reducible apply bel_call; with_reducible assumption) | (with_reducible apply bel_owg; with_reducible assumption; (focus omega)) | with_reducible exact Nat.le_refl _ | omega | (simp; done) | (simp; omega))))); rintro e w9 ⟨A9, n9, c9, B9, m9, d9, rfl, hL9, hM9, hb9x⟩; (have hb9 : Below w8.heap.size w8 w9 := by (refine bel_out ?_; (focus (repeat' first | (with_reducible refine bel_refl ?_) | with_reducible assumption | with_reducible refine bel_drew ?_ | with_reducible refine bel_drewN _ ?_ | with_reducible refine bel_alloc _ ?_ | with_reducible refine bel_set ?_ _ ?_ | (with_reducible apply bel_call; with_reducible assumption) | (with_reducible apply bel_owg; with_reducible assumption; (focus omega)) | with_reducible exact Nat.le_refl _ | omega | (simp; done) | (simp; omega))))); obtain ⟨ka9, kb9, hs9⟩ := hK2.out _ hb9; (have kca9 := Blk.cell ka9); (have kcb9 := Blk.cell kb9)))
                  try go_wp2_with fail
                  refine hK.out _ _ ?_ (fun hHeld2 => ?_)
                  · try dsimp only
                    first | (refine hKK.out _ ?_; (focus (repeat' first | (with_reducible refine bel_refl ?_) | with_reducible assumption | with_reducible refine bel_drew ?_ | with_reducible refine bel_drewN _ ?_ | with_reducible refine bel_alloc _ ?_ | with_reducible refine bel_set ?_ _ ?_ | (with_reducible apply bel_call; with_reducible assumption) | (with_reducible apply bel_owg; with_reducible assumption; (focus omega)) | with_reducible exact Nat.le_refl _ | omega | (simp; done) | (simp; omega))); done) | go_keep
                  clear hK K hHeld1
                  try simp only [Act.put, List.setIfInBounds_toArray, List.set_cons_zero, List.set_cons_succ]
                  refine wpAnyH_ready (rs := [3]) (by kernel_rfl) (by simp) ?_
                  refine AllReadyH.cons (o := { dst := some 49, op := Go.Op.load 24 (Go.Operand.tmp 7), type := 24, pos := "law.go:175", after := #[], guard := none }) rfl (fun K hK => ?_) ?_
                  · go_simp
                    refine hK.out _ _ ?_ (fun hHeld3 => ?_)
                    · try dsimp only
                      first | (refine hKK.out _ ?_; (focus (repeat' first | (with_reducible refine bel_refl ?_) | with_reducible assumption | with_reducible refine bel_drew ?_ | with_reducible refine bel_drewN _ ?_ | with_reducible refine bel_alloc _ ?_ | with_reducible refine bel_set ?_ _ ?_ | (with_reducible apply bel_call; with_reducible assumption) | (with_reducible apply bel_owg; with_reducible assumption; (focus omega)) | with_reducible exact Nat.le_refl _ | omega | (simp; done) | (simp; omega))); done) | go_keep
                    clear hK K hHeld2
                    try simp only [Act.put, List.setIfInBounds_toArray, List.set_cons_zero, List.set_cons_succ]
                    refine wpAnyH_ready (rs := [5]) (by kernel_rfl) (by simp) ?_
                    refine AllReadyH.cons (o := { dst := some 51, op := Go.Op.call { callee := Go.Callee.value (Go.Operand.func 30), args := #[Go.Operand.tmp 49, Go.Operand.tmp 50], argTypes := #[24, 28] }, type := 24, pos := "law.go:175", after := #[{ on := 3, ground := Go.Ground.data }, { on := 4, ground := Go.Ground.data }, { on := 2, ground := Go.Ground.chain }], guard := none }) rfl (fun K hK => ?_) ?_
                    · go_simp
                      (go_at_call 30; ((with_reducible refine (HB.out _ ?_).mono ?_); (focus (refine bel_out ?_; (focus (repeat' first | (with_reducible refine bel_refl ?_) | with_reducible assumption | with_reducible refine bel_drew ?_ | with_reducible refine bel_drewN _ ?_ | with_reducible refine bel_alloc _ ?_ | with_reducible refine bel_set ?_ _ ?_ | (with_reducible apply bel_call; with_reducible assumption) | (with_reducible apply bel_owg; with_reducible assumption; (focus omega)) | with_reducible exact Nat.le_refl _ | omega | (simp; done) | (simp; omega))))); rintro e w10 ⟨A10, n10, c10, B10, m10, d10, rfl, hL10, hM10, hb10x⟩; (have hb10 : Below w8.heap.size w8 w10 := by (refine bel_out ?_; (focus (repeat' first | (with_reducible refine bel_refl ?_) | with_reducible assumption | with_reducible refine bel_drew ?_ | with_reducible refine bel_drewN _ ?_ | with_reducible refine bel_alloc _ ?_ | with_reducible refine bel_set ?_ _ ?_ | (with_reducible apply bel_call; with_reducible assumption) | (with_reducible apply bel_owg; with_reducible assumption; (focus omega)) | with_reducible exact Nat.le_refl _ | omega | (simp; done) | (simp; omega))))); obtain ⟨ka10, kb10, hs10⟩ := hK2.out _ hb10; (have kca10 := Blk.cell ka10); (have kcb10 := Blk.cell kb10); (have kfa10 := Blk.frozen ka10); (have kfb10 := Blk.frozen kb10)))
                      try go_wp2_with fail
                      refine hK.out _ _ ?_ (fun hHeld4 => ?_)
                      · try dsimp only
                        first | (refine hKK.out _ ?_; (focus (repeat' first | (with_reducible refine bel_refl ?_) | with_reducible assumption | with_reducible refine bel_drew ?_ | with_reducible refine bel_drewN _ ?_ | with_reducible refine bel_alloc _ ?_ | with_reducible refine bel_set ?_ _ ?_ | (with_reducible apply bel_call; with_reducible assumption) | (with_reducible apply bel_owg; with_reducible assumption; (focus omega)) | with_reducible exact Nat.le_refl _ | omega | (simp; done) | (simp; omega))); done) | go_keep
                      clear hK K hHeld3
                      try simp only [Act.put, List.setIfInBounds_toArray, List.set_cons_zero, List.set_cons_succ]
                      refine wpAnyH_ready (rs := [6]) (by kernel_rfl) (by simp) ?_
                      refine AllReadyH.cons (o := { dst := none, op := Go.Op.store 24 (Go.Operand.tmp 6) (Go.Operand.tmp 48), type := 0, pos := "law.go:175", after := #[{ on := 2, ground := Go.Ground.data }, { on := 5, ground := Go.Ground.chain }, { on := 0, ground := Go.Ground.phase }, { on := 1, ground := Go.Ground.phase }, { on := 2, ground := Go.Ground.phase }, { on := 3, ground := Go.Ground.textOnly Go.Departure.lateStores }, { on := 4, ground := Go.Ground.textOnly Go.Departure.lateStores }, { on := 5, ground := Go.Ground.textOnly Go.Departure.lateStoresUnsure }], guard := none }) rfl (fun K hK => ?_) ?_
                      · go_simp
                        refine hK.out _ _ ?_ (fun hHeld5 => ?_)
                        · try dsimp only
                          first | (refine hKK.out _ ?_; (focus (repeat' first | (with_reducible refine bel_refl ?_) | with_reducible assumption | with_reducible refine bel_drew ?_ | with_reducible refine bel_drewN _ ?_ | with_reducible refine bel_alloc _ ?_ | with_reducible refine bel_set ?_ _ ?_ | (with_reducible apply bel_call; with_reducible assumption) | (with_reducible apply bel_owg; with_reducible assumption; (focus omega)) | with_reducible exact Nat.le_refl _ | omega | (simp; done) | (simp; omega))); done) | go_keep
                        clear hK K hHeld4
                        try simp only [Act.put, List.setIfInBounds_toArray, List.set_cons_zero, List.set_cons_succ]
                        refine wpAnyH_ready (rs := [7]) (by kernel_rfl) (by simp) ?_
                        refine AllReadyH.cons (o := { dst := none, op := Go.Op.store 24 (Go.Operand.tmp 7) (Go.Operand.tmp 51), type := 0, pos := "law.go:175", after := #[{ on := 5, ground := Go.Ground.data }, { on := 6, ground := Go.Ground.chain }, { on := 0, ground := Go.Ground.phase }, { on := 1, ground := Go.Ground.phase }, { on := 2, ground := Go.Ground.phase }, { on := 3, ground := Go.Ground.phase }, { on := 4, ground := Go.Ground.phase }, { on := 5, ground := Go.Ground.phase }, { on := 6, ground := Go.Ground.phase }], guard := none }) rfl (fun K hK => ?_) ?_
                        · go_simp
                          refine hK.out _ _ ?_ (fun hHeld6 => ?_)
                          · try dsimp only
                            first | (refine hKK.out _ ?_; (focus (repeat' first | (with_reducible refine bel_refl ?_) | with_reducible assumption | with_reducible refine bel_drew ?_ | with_reducible refine bel_drewN _ ?_ | with_reducible refine bel_alloc _ ?_ | with_reducible refine bel_set ?_ _ ?_ | (with_reducible apply bel_call; with_reducible assumption) | (with_reducible apply bel_owg; with_reducible assumption; (focus omega)) | with_reducible exact Nat.le_refl _ | omega | (simp; done) | (simp; omega))); done) | go_keep
                          clear hK K hHeld5
                          try simp only [Act.put, List.setIfInBounds_toArray, List.set_cons_zero, List.set_cons_succ]
                          refine wpAnyH_done (by kernel_rfl) ?_ _
                          go_wp2_with fail
                          go_meet
                          exact ⟨_, PS.stores (below_call hb hb10) hs10 ka10 kb10 (RdJ.below hL9 hb10x) (RdJ.below hM9 hb10x) hL10 hM10 HPn hl1n hl2n HI.out.1 HI.out.2.1 HI.out.2.2.1 HI.out.2.2.2.1 HI.out.2.2.2.2⟩
                        exact AllReadyH.nil
                      exact AllReadyH.nil
                    exact AllReadyH.nil
                  exact AllReadyH.nil
                refine AllReadyH.cons (o := { dst := some 49, op := Go.Op.load 24 (Go.Operand.tmp 7), type := 24, pos := "law.go:175", after := #[], guard := none }) rfl (fun K hK => ?_) ?_
                · go_simp
                  refine hK.out _ _ ?_ (fun hHeld2 => ?_)
                  · try dsimp only
                    first | (refine hKK.out _ ?_; (focus (repeat' first | (with_reducible refine bel_refl ?_) | with_reducible assumption | with_reducible refine bel_drew ?_ | with_reducible refine bel_drewN _ ?_ | with_reducible refine bel_alloc _ ?_ | with_reducible refine bel_set ?_ _ ?_ | (with_reducible apply bel_call; with_reducible assumption) | (with_reducible apply bel_owg; with_reducible assumption; (focus omega)) | with_reducible exact Nat.le_refl _ | omega | (simp; done) | (simp; omega))); done) | go_keep
                  clear hK K hHeld1
                  try simp only [Act.put, List.setIfInBounds_toArray, List.set_cons_zero, List.set_cons_succ]
                  refine wpAnyH_ready (rs := [2]) (by kernel_rfl) (by simp) ?_
                  refine AllReadyH.cons (o := { dst := some 48, op := Go.Op.call { callee := Go.Callee.value (Go.Operand.func 21), args := #[Go.Operand.tmp 46, Go.Operand.tmp 47], argTypes := #[24, 28] }, type := 24, pos := "law.go:175", after := #[{ on := 0, ground := Go.Ground.data }, { on := 1, ground := Go.Ground.data }], guard := none }) rfl (fun K hK => ?_) ?_
                  · go_simp
                    (go_at_call 21; ((with_reducible refine (HA.out _ ?_).mono ?_); (focus (refine bel_out ?_; (focus (repeat' first | (with_reducible refine bel_refl ?_) | with_reducible assumption | with_reducible refine bel_drew ?_ | with_reducible refine bel_drewN _ ?_ | with_reducible refine bel_alloc _ ?_ | with_reducible refine bel_set ?_ _ ?_ | (with_reducible apply bel_call; with_reducible assumption) | (with_reducible apply bel_owg; with_reducible assumption; (focus omega)) | with_reducible exact Nat.le_refl _ | omega | (simp; done) | (simp; omega))))); rintro e w9 ⟨A9, n9, c9, B9, m9, d9, rfl, hL9, hM9, hb9x⟩; (have hb9 : Below w8.heap.size w8 w9 := by (refine bel_out ?_; (focus (repeat' first | (with_reducible refine bel_refl ?_) | with_reducible assumption | with_reducible refine bel_drew ?_ | with_reducible refine bel_drewN _ ?_ | with_reducible refine bel_alloc _ ?_ | with_reducible refine bel_set ?_ _ ?_ | (with_reducible apply bel_call; with_reducible assumption) | (with_reducible apply bel_owg; with_reducible assumption; (focus omega)) | with_reducible exact Nat.le_refl _ | omega | (simp; done) | (simp; omega))))); obtain ⟨ka9, kb9, hs9⟩ := hK2.out _ hb9; (have kca9 := Blk.cell ka9); (have kcb9 := Blk.cell kb9)))
                    try go_wp2_with fail
                    refine hK.out _ _ ?_ (fun hHeld3 => ?_)
                    · try dsimp only
                      first | (refine hKK.out _ ?_; (focus (repeat' first | (with_reducible refine bel_refl ?_) | with_reducible assumption | with_reducible refine bel_drew ?_ | with_reducible refine bel_drewN _ ?_ | with_reducible refine bel_alloc _ ?_ | with_reducible refine bel_set ?_ _ ?_ | (with_reducible apply bel_call; with_reducible assumption) | (with_reducible apply bel_owg; with_reducible assumption; (focus omega)) | with_reducible exact Nat.le_refl _ | omega | (simp; done) | (simp; omega))); done) | go_keep
                    clear hK K hHeld2
                    try simp only [Act.put, List.setIfInBounds_toArray, List.set_cons_zero, List.set_cons_succ]
                    refine wpAnyH_ready (rs := [5]) (by kernel_rfl) (by simp) ?_
                    refine AllReadyH.cons (o := { dst := some 51, op := Go.Op.call { callee := Go.Callee.value (Go.Operand.func 30), args := #[Go.Operand.tmp 49, Go.Operand.tmp 50], argTypes := #[24, 28] }, type := 24, pos := "law.go:175", after := #[{ on := 3, ground := Go.Ground.data }, { on := 4, ground := Go.Ground.data }, { on := 2, ground := Go.Ground.chain }], guard := none }) rfl (fun K hK => ?_) ?_
                    · go_simp
                      (go_at_call 30; ((with_reducible refine (HB.out _ ?_).mono ?_); (focus (refine bel_out ?_; (focus (repeat' first | (with_reducible refine bel_refl ?_) | with_reducible assumption | with_reducible refine bel_drew ?_ | with_reducible refine bel_drewN _ ?_ | with_reducible refine bel_alloc _ ?_ | with_reducible refine bel_set ?_ _ ?_ | (with_reducible apply bel_call; with_reducible assumption) | (with_reducible apply bel_owg; with_reducible assumption; (focus omega)) | with_reducible exact Nat.le_refl _ | omega | (simp; done) | (simp; omega))))); rintro e w10 ⟨A10, n10, c10, B10, m10, d10, rfl, hL10, hM10, hb10x⟩; (have hb10 : Below w8.heap.size w8 w10 := by (refine bel_out ?_; (focus (repeat' first | (with_reducible refine bel_refl ?_) | with_reducible assumption | with_reducible refine bel_drew ?_ | with_reducible refine bel_drewN _ ?_ | with_reducible refine bel_alloc _ ?_ | with_reducible refine bel_set ?_ _ ?_ | (with_reducible apply bel_call; with_reducible assumption) | (with_reducible apply bel_owg; with_reducible assumption; (focus omega)) | with_reducible exact Nat.le_refl _ | omega | (simp; done) | (simp; omega))))); obtain ⟨ka10, kb10, hs10⟩ := hK2.out _ hb10; (have kca10 := Blk.cell ka10); (have kcb10 := Blk.cell kb10); (have kfa10 := Blk.frozen ka10); (have kfb10 := Blk.frozen kb10)))
                      try go_wp2_with fail
                      refine hK.out _ _ ?_ (fun hHeld4 => ?_)
                      · try dsimp only
                        first | (refine hKK.out _ ?_; (focus (repeat' first | (with_reducible refine bel_refl ?_) | with_reducible assumption | with_reducible refine bel_drew ?_ | with_reducible refine bel_drewN _ ?_ | with_reducible refine bel_alloc _ ?_ | with_reducible refine bel_set ?_ _ ?_ | (with_reducible apply bel_call; with_reducible assumption) | (with_reducible apply bel_owg; with_reducible assumption; (focus omega)) | with_reducible exact Nat.le_refl _ | omega | (simp; done) | (simp; omega))); done) | go_keep
                      clear hK K hHeld3
                      try simp only [Act.put, List.setIfInBounds_toArray, List.set_cons_zero, List.set_cons_succ]
                      refine wpAnyH_ready (rs := [6]) (by kernel_rfl) (by simp) ?_
                      refine AllReadyH.cons (o := { dst := none, op := Go.Op.store 24 (Go.Operand.tmp 6) (Go.Operand.tmp 48), type := 0, pos := "law.go:175", after := #[{ on := 2, ground := Go.Ground.data }, { on := 5, ground := Go.Ground.chain }, { on := 0, ground := Go.Ground.phase }, { on := 1, ground := Go.Ground.phase }, { on := 2, ground := Go.Ground.phase }, { on := 3, ground := Go.Ground.textOnly Go.Departure.lateStores }, { on := 4, ground := Go.Ground.textOnly Go.Departure.lateStores }, { on := 5, ground := Go.Ground.textOnly Go.Departure.lateStoresUnsure }], guard := none }) rfl (fun K hK => ?_) ?_
                      · go_simp
                        refine hK.out _ _ ?_ (fun hHeld5 => ?_)
                        · try dsimp only
                          first | (refine hKK.out _ ?_; (focus (repeat' first | (with_reducible refine bel_refl ?_) | with_reducible assumption | with_reducible refine bel_drew ?_ | with_reducible refine bel_drewN _ ?_ | with_reducible refine bel_alloc _ ?_ | with_reducible refine bel_set ?_ _ ?_ | (with_reducible apply bel_call; with_reducible assumption) | (with_reducible apply bel_owg; with_reducible assumption; (focus omega)) | with_reducible exact Nat.le_refl _ | omega | (simp; done) | (simp; omega))); done) | go_keep
                        clear hK K hHeld4
                        try simp only [Act.put, List.setIfInBounds_toArray, List.set_cons_zero, List.set_cons_succ]
                        refine wpAnyH_ready (rs := [7]) (by kernel_rfl) (by simp) ?_
                        refine AllReadyH.cons (o := { dst := none, op := Go.Op.store 24 (Go.Operand.tmp 7) (Go.Operand.tmp 51), type := 0, pos := "law.go:175", after := #[{ on := 5, ground := Go.Ground.data }, { on := 6, ground := Go.Ground.chain }, { on := 0, ground := Go.Ground.phase }, { on := 1, ground := Go.Ground.phase }, { on := 2, ground := Go.Ground.phase }, { on := 3, ground := Go.Ground.phase }, { on := 4, ground := Go.Ground.phase }, { on := 5, ground := Go.Ground.phase }, { on := 6, ground := Go.Ground.phase }], guard := none }) rfl (fun K hK => ?_) ?_
                        · go_simp
                          refine hK.out _ _ ?_ (fun hHeld6 => ?_)
                          · try dsimp only
                            first | (refine hKK.out _ ?_; (focus (repeat' first | (with_reducible refine bel_refl ?_) | with_reducible assumption | with_reducible refine bel_drew ?_ | with_reducible refine bel_drewN _ ?_ | with_reducible refine bel_alloc _ ?_ | with_reducible refine bel_set ?_ _ ?_ | (with_reducible apply bel_call; with_reducible assumption) | (with_reducible apply bel_owg; with_reducible assumption; (focus omega)) | with_reducible exact Nat.le_refl _ | omega | (simp; done) | (simp; omega))); done) | go_keep
                          clear hK K hHeld5
                          try simp only [Act.put, List.setIfInBounds_toArray, List.set_cons_zero, List.set_cons_succ]
                          refine wpAnyH_done (by kernel_rfl) ?_ _
                          go_wp2_with fail
                          go_meet
                          exact ⟨_, PS.stores (below_call hb hb10) hs10 ka10 kb10 (RdJ.below hL9 hb10x) (RdJ.below hM9 hb10x) hL10 hM10 HPn hl1n hl2n HI.out.1 HI.out.2.1 HI.out.2.2.1 HI.out.2.2.2.1 HI.out.2.2.2.2⟩
                        exact AllReadyH.nil
                      exact AllReadyH.nil
                    exact AllReadyH.nil
                  exact AllReadyH.nil
                exact AllReadyH.nil
              refine AllReadyH.cons (o := { dst := some 49, op := Go.Op.load 24 (Go.Operand.tmp 7), type := 24, pos := "law.go:175", after := #[], guard := none }) rfl (fun K hK => ?_) ?_
              · go_simp
                refine hK.out _ _ ?_ (fun hHeld1 => ?_)
                · try dsimp only
                  first | (refine hKK.out _ ?_; (focus (repeat' first | (with_reducible refine bel_refl ?_) | with_reducible assumption | with_reducible refine bel_drew ?_ | with_reducible refine bel_drewN _ ?_ | with_reducible refine bel_alloc _ ?_ | with_reducible refine bel_set ?_ _ ?_ | (with_reducible apply bel_call; with_reducible assumption) | (with_reducible apply bel_owg; with_reducible assumption; (focus omega)) | with_reducible exact Nat.le_refl _ | omega | (simp; done) | (simp; omega))); done) | go_keep
                clear hK K hHeld0
                try simp only [Act.put, List.setIfInBounds_toArray, List.set_cons_zero, List.set_cons_succ]
                refine wpAnyH_ready (rs := [0]) (by kernel_rfl) (by simp) ?_
                refine AllReadyH.cons (o := { dst := some 46, op := Go.Op.load 24 (Go.Operand.tmp 6), type := 24, pos := "law.go:175", after := #[], guard := none }) rfl (fun K hK => ?_) ?_
                · go_simp
                  refine hK.out _ _ ?_ (fun hHeld2 => ?_)
                  · try dsimp only
                    first | (refine hKK.out _ ?_; (focus (repeat' first | (with_reducible refine bel_refl ?_) | with_reducible assumption | with_reducible refine bel_drew ?_ | with_reducible refine bel_drewN _ ?_ | with_reducible refine bel_alloc _ ?_ | with_reducible refine bel_set ?_ _ ?_ | (with_reducible apply bel_call; with_reducible assumption) | (with_reducible apply bel_owg; with_reducible assumption; (focus omega)) | with_reducible exact Nat.le_refl _ | omega | (simp; done) | (simp; omega))); done) | go_keep
                  clear hK K hHeld1
                  try simp only [Act.put, List.setIfInBounds_toArray, List.set_cons_zero, List.set_cons_succ]
                  refine wpAnyH_ready (rs := [2]) (by kernel_rfl) (by simp) ?_
                  refine AllReadyH.cons (o := { dst := some 48, op := Go.Op.call { callee := Go.Callee.value (Go.Operand.func 21), args := #[Go.Operand.tmp 46, Go.Operand.tmp 47], argTypes := #[24, 28] }, type := 24, pos := "law.go:175", after := #[{ on := 0, ground := Go.Ground.data }, { on := 1, ground := Go.Ground.data }], guard := none }) rfl (fun K hK => ?_) ?_
                  · go_simp
                    (go_at_call 21; ((with_reducible refine (HA.out _ ?_).mono ?_); (focus (refine bel_out ?_; (focus (repeat' first | (with_reducible refine bel_refl ?_) | with_reducible assumption | with_reducible refine bel_drew ?_ | with_reducible refine bel_drewN _ ?_ | with_reducible refine bel_alloc _ ?_ | with_reducible refine bel_set ?_ _ ?_ | (with_reducible apply bel_call; with_reducible assumption) | (with_reducible apply bel_owg; with_reducible assumption; (focus omega)) | with_reducible exact Nat.le_refl _ | omega | (simp; done) | (simp; omega))))); rintro e w9 ⟨A9, n9, c9, B9, m9, d9, rfl, hL9, hM9, hb9x⟩; (have hb9 : Below w8.heap.size w8 w9 := by (refine bel_out ?_; (focus (repeat' first | (with_reducible refine bel_refl ?_) | with_reducible assumption | with_reducible refine bel_drew ?_ | with_reducible refine bel_drewN _ ?_ | with_reducible refine bel_alloc _ ?_ | with_reducible refine bel_set ?_ _ ?_ | (with_reducible apply bel_call; with_reducible assumption) | (with_reducible apply bel_owg; with_reducible assumption; (focus omega)) | with_reducible exact Nat.le_refl _ | omega | (simp; done) | (simp; omega))))); obtain ⟨ka9, kb9, hs9⟩ := hK2.out _ hb9; (have kca9 := Blk.cell ka9); (have kcb9 := Blk.cell kb9)))
                    try go_wp2_with fail
                    refine hK.out _ _ ?_ (fun hHeld3 => ?_)
                    · try dsimp only
                      first | (refine hKK.out _ ?_; (focus (repeat' first | (with_reducible refine bel_refl ?_) | with_reducible assumption | with_reducible refine bel_drew ?_ | with_reducible refine bel_drewN _ ?_ | with_reducible refine bel_alloc _ ?_ | with_reducible refine bel_set ?_ _ ?_ | (with_reducible apply bel_call; with_reducible assumption) | (with_reducible apply bel_owg; with_reducible assumption; (focus omega)) | with_reducible exact Nat.le_refl _ | omega | (simp; done) | (simp; omega))); done) | go_keep
                    clear hK K hHeld2
                    try simp only [Act.put, List.setIfInBounds_toArray, List.set_cons_zero, List.set_cons_succ]
                    refine wpAnyH_ready (rs := [5]) (by kernel_rfl) (by simp) ?_
                    refine AllReadyH.cons (o := { dst := some 51, op := Go.Op.call { callee := Go.Callee.value (Go.Operand.func 30), args := #[Go.Operand.tmp 49, Go.Operand.tmp 50], argTypes := #[24, 28] }, type := 24, pos := "law.go:175", after := #[{ on := 3, ground := Go.Ground.data }, { on := 4, ground := Go.Ground.data }, { on := 2, ground := Go.Ground.chain }], guard := none }) rfl (fun K hK => ?_) ?_
                    · go_simp
                      (go_at_call 30; ((with_reducible refine (HB.out _ ?_).mono ?_); (focus (refine bel_out ?_; (focus (repeat' first | (with_reducible refine bel_refl ?_) | with_reducible assumption | with_reducible refine bel_drew ?_ | with_reducible refine bel_drewN _ ?_ | with_reducible refine bel_alloc _ ?_ | with_reducible refine bel_set ?_ _ ?_ | (with_reducible apply bel_call; with_reducible assumption) | (with_reducible apply bel_owg; with_reducible assumption; (focus omega)) | with_reducible exact Nat.le_refl _ | omega | (simp; done) | (simp; omega))))); rintro e w10 ⟨A10, n10, c10, B10, m10, d10, rfl, hL10, hM10, hb10x⟩; (have hb10 : Below w8.heap.size w8 w10 := by (refine bel_out ?_; (focus (repeat' first | (with_reducible refine bel_refl ?_) | with_reducible assumption | with_reducible refine bel_drew ?_ | with_reducible refine bel_drewN _ ?_ | with_reducible refine bel_alloc _ ?_ | with_reducible refine bel_set ?_ _ ?_ | (with_reducible apply bel_call; with_reducible assumption) | (with_reducible apply bel_owg; with_reducible assumption; (focus omega)) | with_reducible exact Nat.le_refl _ | omega | (simp; done) | (simp; omega))))); obtain ⟨ka10, kb10, hs10⟩ := hK2.out _ hb10; (have kca10 := Blk.cell ka10); (have kcb10 := Blk.cell kb10); (have kfa10 := Blk.frozen ka10); (have kfb10 := Blk.frozen kb10)))
                      try go_wp2_with fail
                      refine hK.out _ _ ?_ (fun hHeld4 => ?_)
                      · try dsimp only
                        first | (refine hKK.out _ ?_; (focus (repeat' first | (with_reducible refine bel_refl ?_) | with_reducible assumption | with_reducible refine bel_drew ?_ | with_reducible refine bel_drewN _ ?_ | with_reducible refine bel_alloc _ ?_ | with_reducible refine bel_set ?_ _ ?_ | (with_reducible apply bel_call; with_reducible assumption) | (with_reducible apply bel_owg; with_reducible assumption; (focus omega)) | with_reducible exact Nat.le_refl _ | omega | (simp; done) | (simp; omega))); done) | go_keep
                      clear hK K hHeld3
                      try simp only [Act.put, List.setIfInBounds_toArray, List.set_cons_zero, List.set_cons_succ]
                      refine wpAnyH_ready (rs := [6]) (by kernel_rfl) (by simp) ?_
                      refine AllReadyH.cons (o := { dst := none, op := Go.Op.store 24 (Go.Operand.tmp 6) (Go.Operand.tmp 48), type := 0, pos := "law.go:175", after := #[{ on := 2, ground := Go.Ground.data }, { on := 5, ground := Go.Ground.chain }, { on := 0, ground := Go.Ground.phase }, { on := 1, ground := Go.Ground.phase }, { on := 2, ground := Go.Ground.phase }, { on := 3, ground := Go.Ground.textOnly Go.Departure.lateStores }, { on := 4, ground := Go.Ground.textOnly Go.Departure.lateStores }, { on := 5, ground := Go.Ground.textOnly Go.Departure.lateStoresUnsure }], guard := none }) rfl (fun K hK => ?_) ?_
                      · go_simp
                        refine hK.out _ _ ?_ (fun hHeld5 => ?_)
                        · try dsimp only
                          first | (refine hKK.out _ ?_; (focus (repeat' first | (with_reducible refine bel_refl ?_) | with_reducible assumption | with_reducible refine bel_drew ?_ | with_reducible refine bel_drewN _ ?_ | with_reducible refine bel_alloc _ ?_ | with_reducible refine bel_set ?_ _ ?_ | (with_reducible apply bel_call; with_reducible assumption) | (with_reducible apply bel_owg; with_reducible assumption; (focus omega)) | with_reducible exact Nat.le_refl _ | omega | (simp; done) | (simp; omega))); done) | go_keep
                        clear hK K hHeld4
                        try simp only [Act.put, List.setIfInBounds_toArray, List.set_cons_zero, List.set_cons_succ]
                        refine wpAnyH_ready (rs := [7]) (by kernel_rfl) (by simp) ?_
                        refine AllReadyH.cons (o := { dst := none, op := Go.Op.store 24 (Go.Operand.tmp 7) (Go.Operand.tmp 51), type := 0, pos := "law.go:175", after := #[{ on := 5, ground := Go.Ground.data }, { on := 6, ground := Go.Ground.chain }, { on := 0, ground := Go.Ground.phase }, { on := 1, ground := Go.Ground.phase }, { on := 2, ground := Go.Ground.phase }, { on := 3, ground := Go.Ground.phase }, { on := 4, ground := Go.Ground.phase }, { on := 5, ground := Go.Ground.phase }, { on := 6, ground := Go.Ground.phase }], guard := none }) rfl (fun K hK => ?_) ?_
                        · go_simp
                          refine hK.out _ _ ?_ (fun hHeld6 => ?_)
                          · try dsimp only
                            first | (refine hKK.out _ ?_; (focus (repeat' first | (with_reducible refine bel_refl ?_) | with_reducible assumption | with_reducible refine bel_drew ?_ | with_reducible refine bel_drewN _ ?_ | with_reducible refine bel_alloc _ ?_ | with_reducible refine bel_set ?_ _ ?_ | (with_reducible apply bel_call; with_reducible assumption) | (with_reducible apply bel_owg; with_reducible assumption; (focus omega)) | with_reducible exact Nat.le_refl _ | omega | (simp; done) | (simp; omega))); done) | go_keep
                          clear hK K hHeld5
                          try simp only [Act.put, List.setIfInBounds_toArray, List.set_cons_zero, List.set_cons_succ]
                          refine wpAnyH_done (by kernel_rfl) ?_ _
                          go_wp2_with fail
                          go_meet
                          exact ⟨_, PS.stores (below_call hb hb10) hs10 ka10 kb10 (RdJ.below hL9 hb10x) (RdJ.below hM9 hb10x) hL10 hM10 HPn hl1n hl2n HI.out.1 HI.out.2.1 HI.out.2.2.1 HI.out.2.2.2.1 HI.out.2.2.2.2⟩
                        exact AllReadyH.nil
                      exact AllReadyH.nil
                    exact AllReadyH.nil
                  exact AllReadyH.nil
                exact AllReadyH.nil
              exact AllReadyH.nil
          case rest =>
            obtain ⟨S2, HP9⟩ := hcut
            clear HP8 HJ8
            obtain ⟨w9, rfl⟩ : ∃ q, q = wc := ⟨_, rfl⟩
            have HPH := Lib.hid HP9
            obtain ⟨L, M, Aa, na, ca, Ba, ma, da, Ab, nb, cb, Bb, mb, db, hb, hs, ka, kb, h1, h2, h3, h4, HP, hl1, hl2, hS, HRB⟩ := HP9
            have HSQ := Lib.hid (sameq_true Aa na ca L Ba ma da M Ab nb cb Bb mb db w9 h1 h2 h3 h4)
            have HV : Hid (∀ W, Below w9.heap.size w9 W → Calls Tryd.prog 17 #[.agg #[.slice Aa na ca, .slice Ba ma da]] W fun e w' => e = .returned (.bool true) ∧ Below W.heap.size W w') := Lib.hid fun W hW => by
              have := valid_any Aa na ca L Ba ma da M x W (RdJ.below h1 hW) (RdJ.below h2 hW) (HX.out W (below_call hb hW)) (fun a ha => (HP.out.1 a ha).wf)
              rw [qv_true HP.out.1 HP.out.2.1 HP.out.2.2] at this
              exact this
            have kca := Blk.cell ka
            have kcb := Blk.cell kb
            have hk40 : (k : Int) ≤ 40 := by omega
            clear h1 h2 h3 h4 HP hl1 hl2 hS HRB hb hs kb
            go_wp2_with fail
            go_at_call 23
            refine HSQ.out.mono ?_
            rintro e w10 ⟨rfl, hb10⟩
            have ka10 := heap_call hb10 ka
            have kca10 := Blk.cell ka10
            clear kca kcb ka
            go_wp2_with fail
            go_at_call 17
            refine (HV.out _ hb10).mono ?_
            rintro e w11 ⟨rfl, hb11⟩
            clear kca10 ka10
            go_wp2_with fail
            go_roundw
            case rel => exact ⟨k, S2, by go_num, HPH.out.call (below_call hb10 hb11)⟩
            case measure => simp [intOf]
end Go.Proofs.YtobgnncdldfkkaaDoor
