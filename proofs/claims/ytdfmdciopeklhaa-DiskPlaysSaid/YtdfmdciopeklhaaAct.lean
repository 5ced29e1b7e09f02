/- The walk of act: an operation with both implementations. -/
import Derived.Test.YtdfmdciopeklhaaSynced
import Derived.Test.YtdfmdciopeklhaaCuts
import Derived.Deep.DeepCutAuto
import Derived.Deep.CutBlock
namespace Go.Proofs.Ytdfmdciopeklhaa
open Go.RowKit
set_option linter.unusedSimpArgs false
set_option linter.unusedVariables false

section
variable {w a b : World} {row : Option Nat}
theorem gr_refl : w.grownBy w row := World.grownBy.refl w row
theorem gr_drew (h : w.grownBy a row) : w.grownBy a.drew row := ⟨h.os, h.tape, h.output, h.size, h.block⟩
theorem gr_drewN {n : Nat} (h : w.grownBy a row) : w.grownBy (a.drewN n) row := grown_drewN h n
theorem gr_alloc {o : Obj} (h : w.grownBy a row) : w.grownBy (a.alloc o) row :=
  ⟨h.os, h.tape, h.output, Nat.le_trans h.size (by simp), fun i hi hne => (Below.heap_alloc a o i (Nat.lt_of_lt_of_le hi h.size)).trans (h.block i hi hne)⟩
theorem gr_set {p : Addr} {u : Value} (h : w.grownBy a row) (hp : w.heap.size ≤ p.block) : w.grownBy (a.setCell p u) row :=
  ⟨h.os, h.tape, h.output, by simpa [World.setCell] using h.size, fun i hi hne => (Below.heap_setCell a p u i (by omega)).trans (h.block i hi hne)⟩
theorem gr_next (hg : a.grownBy b row) (h : w.grownBy a row) : w.grownBy b row := World.grownBy.trans h hg
theorem gr_call (hb : Below a.heap.size a b) (h : w.grownBy a row) : w.grownBy b row :=
  ⟨hb.os.trans h.os, hb.tape.trans h.tape, hb.output.trans h.output, Nat.le_trans h.size hb.size, fun i hi hne => (hb.block i (Nat.lt_of_lt_of_le hi h.size)).trans (h.block i hi hne)⟩
end
theorem OwB.next {w w' : World} {base gs : Nat} {A Al : Option Addr} {n c nl cl : Nat} {l : List UInt8} (hg : w.grownBy w' (some gs)) (hs : SrcAt w gs Al nl cl) (h : OwB w base 5 A n c l) : OwB w' base 5 A n c l := by
  obtain ⟨cs, hcs⟩ := hs.out
  exact OwB.grown hg hcs (by decide) h

theorem rwrite_ok (A : Option Addr) (n c : Nat) (l : List UInt8) (s : Int) (A2 : Option Addr) (n2 c2 : Nat) (l2 : List UInt8) (w : World) (hr : RdB w A n c l) (hr2 : RdB w A2 n2 c2 l2)
    (hv : validB n s = true) (ht : n + n2 ≤ 1048576) : Calls Try.prog 21 #[.agg #[.slice A n c, .int .i64 s], .slice A2 n2 c2] w (RDiskE w (l ++ l2) s 0) := by
  have h := rwrite_any A n c l s A2 n2 c2 l2 w hr hr2
  have h1 := hr.len
  have h2 := hr2.len
  have ht' : tooB n n2 = false := by simp [tooB]; omega
  have e1 : wrL l s l2 = l ++ l2 := by simp [wrL, ← h1, ← h2, hv, ht']
  have e2 : wrS l s l2 = s := by simp [wrS, ← h1, ← h2, hv, ht']
  have e3 : wrE l s l2 = 0 := by simp [wrE, ← h1, ← h2, hv, ht']
  rw [e1, e2, e3] at h
  exact h
theorem rcut_ok (A : Option Addr) (n c k : Nat) (l : List UInt8) (s : Int) (w : World) (hr : RdB w A n c l) (hv : validB n s = true) (hk : k ≤ n) :
    Calls Try.prog 23 #[.agg #[.slice A n c, .int .i64 s], .int .i64 k] w (RDiskE w (l.take k) (min s k) 0) := by
  have h := rcut_any A n c l s k w hr
  have h1 := hr.len
  have ht' : inB n k = true := by simp [inB]; omega
  have e1 : cuL l s k = l.take k := by simp [cuL, ← h1, hv, ht']
  have e2 : cuS l s k = min s k := by simp [cuS, ← h1, hv, ht']
  have e3 : cuE l s k = 0 := by simp [cuE, ← h1, hv, ht']
  rw [e1, e2, e3] at h
  exact h
theorem crash_both {A B : Option Addr} {n c d : Nat} {l : List UInt8} {s : Int} (keep sp : Int) (hn : n = l.length) (hv : validB n s = true) :
    ∃ l' : List UInt8, l'.length ≤ n ∧ (∀ W : World, RdB W A n c l → Calls Try.prog 14 #[.agg #[.slice A n c, .int .i64 s], .int .i64 keep, .int .i64 sp] W (RDisk W l' l'.length)) ∧
      (∀ W : World, RdB W B n d l → Calls Try.prog 15 #[.agg #[.slice B n d, .int .i64 s], .int .i64 keep, .int .i64 sp] W (RDisk W l' l'.length)) := by
  obtain ⟨v1, v2, v3⟩ := valid_le hv
  obtain ⟨S, rfl⟩ := Int.eq_ofNat_of_zero_le v1
  have hK : 0 ≤ crK n S keep := by unfold crK; omega
  obtain ⟨K, hK⟩ := Int.eq_ofNat_of_zero_le hK
  cases K with
  | zero =>
    have e : (l.take S).length = S := by rw [List.length_take]; omega
    refine ⟨l.take S, by omega, fun W hW => ?_, fun W hW => ?_⟩
    · rw [e]; exact crash_zero A n c S l keep sp W hW (by omega) hv hK
    · rw [e]; exact rcrash_zero B n d S l keep sp W hW hv hK
  | succ K =>
    have hk2 : S + K + 1 ≤ n := by unfold crK at hK; omega
    have e : ((l.take (S + K + 1)).set (S + K) (l.getD (S + K) 0 ^^^ low8 sp)).length = S + K + 1 := by rw [List.length_set, List.length_take]; omega
    refine ⟨(l.take (S + K + 1)).set (S + K) (l.getD (S + K) 0 ^^^ low8 sp), by omega, fun W hW => ?_, fun W hW => ?_⟩
    · rw [e]; exact crash_pos A n c S K l keep sp W hW (by omega) hv hK
    · rw [e]; exact rcrash_pos B n d S K l keep sp W hW hv hK

theorem one_byte (x : Int) (h0 : 0 ≤ x) (h1 : x < 256) : (#[Value.int .u8 x] : Array Value).toList.take 1 = bs [low8 x] := by
  have e : x = ((low8 x).toNat : Int) := by rw [low8_toNat]; omega
  simp only [bs, List.map_cons, List.map_nil]
  rw [← e]
  rfl
theorem valid_more2 {n m : Nat} {s : Int} (h : validB n s = true) (h1 : n ≤ m) (h2 : m ≤ 1048576) : validB m s = true := by
  obtain ⟨a, b, c⟩ := valid_le h
  simp [validB]
  omega

def RAct (w : World) (base gs : Nat) (A : Option Addr) (n c nd : Nat) (e : Ending) (w' : World) : Prop :=
  ∃ (Aa : Option Addr) (ca : Nat) (Ab : Option Addr) (cb nd' : Nat) (l : List UInt8) (s : Int),
    e = .returned (.tuple #[.agg #[.slice Aa nd' ca, .int .i64 s], .agg #[.slice Ab nd' cb, .int .i64 s], .bool true]) ∧
    OwB w' base 5 Aa nd' ca l ∧ OwB w' base 5 Ab nd' cb l ∧ validB nd' s = true ∧ nd' ≤ nd + 5 ∧ SrcAt w' gs A n c ∧ w.grownBy w' (some gs)

abbrev ZD : Obj := .cells #[.slice none 0 0, .int .i64 0] 24 (0, 0)
abbrev AD (A : Option Addr) (n c : Nat) (s : Int) : Obj := .cells #[.slice A n c, .int .i64 s] 24 (0, 0)
/-- the blocks of act's own variables -/
structure ActB (w wx : World) (gs g9 g10 : Nat) : Prop where
  b9 : w.heap.size + 3 < g9
  b10 : w.heap.size + 3 < g10
  ne : g9 ≠ g10
  r6 : wx.heap[w.heap.size + 1 + 1]? = some ZD
  r7 : wx.heap[w.heap.size + 1 + 1 + 1]? = some ZD
  gr : w.grownBy wx (some gs)
def Act1 (w wx : World) (gs g9 g10 : Nat) (A : Option Addr) (n c : Nat) (x3 x4 x9 x10 : Array Value) : Prop :=
  ActB w wx gs g9 g10 ∧ wx.heap[w.heap.size]? = some (.cells x3 24 (0, 0)) ∧ wx.heap[w.heap.size + 1]? = some (.cells x4 24 (0, 0)) ∧
    wx.heap[g9]? = some (.cells x9 24 (0, 0)) ∧ wx.heap[g10]? = some (.cells x10 24 (0, 0)) ∧ SrcAt wx gs A n c
def Act2 (w wx : World) (gs g9 g10 base : Nat) (A : Option Addr) (n c nd : Nat) : Prop :=
  ∃ (x3 x4 : Array Value) (Aa : Option Addr) (nd' ca : Nat) (Ab : Option Addr) (cb : Nat) (l : List UInt8) (s : Int), Act1 w wx gs g9 g10 A n c x3 x4 #[.slice Aa nd' ca, .int .i64 s] #[.slice Ab nd' cb, .int .i64 s] ∧
    OwB wx base 5 Aa nd' ca l ∧ OwB wx base 5 Ab nd' cb l ∧ validB nd' s = true ∧ nd' ≤ nd + 5

theorem cellH {w : World} {g t : Nat} {cs : Array Value} (h : w.heap[g]? = some (.cells cs t (0, 0))) (i : Nat) : w.cell? ⟨g, i, none⟩ = cs[i]? := Blk.cell h i
section
variable {w wx w2 : World} {gs g9 g10 n c : Nat} {A : Option Addr} {x3 x4 x9 x10 : Array Value}
theorem Act1.next (h : Act1 w wx gs g9 g10 A n c x3 x4 x9 x10) (hgs : gs < w.heap.size)
    (hg : wx.grownBy w2 (some gs)) (hs : SrcAt w2 gs A n c) : Act1 w w2 gs g9 g10 A n c x3 x4 x9 x10 := by
  obtain ⟨⟨b9, b10, ne, r6, r7, gr⟩, h3, h4, h9, h10, h0⟩ := h
  exact ⟨⟨b9, b10, ne, heap_grown hg (by omega) r6, heap_grown hg (by omega) r7, gr_next hg gr⟩, heap_grown hg (by omega) h3, heap_grown hg (by omega) h4, heap_grown hg (by omega) h9, heap_grown hg (by omega) h10, hs⟩
theorem Act1.call (hg : Below wx.heap.size wx w2) (h : Act1 w wx gs g9 g10 A n c x3 x4 x9 x10) : Act1 w w2 gs g9 g10 A n c x3 x4 x9 x10 := by
  obtain ⟨⟨b9, b10, ne, r6, r7, gr⟩, h3, h4, h9, h10, h0⟩ := h
  exact ⟨⟨b9, b10, ne, heap_call hg r6, heap_call hg r7, gr_call hg gr⟩, heap_call hg h3, heap_call hg h4, heap_call hg h9, heap_call hg h10, SrcAt.call hg h0⟩
theorem Act1.alloc {o : Obj} (h : Act1 w wx gs g9 g10 A n c x3 x4 x9 x10) : Act1 w (wx.alloc o) gs g9 g10 A n c x3 x4 x9 x10 :=
  Act1.call ((Below.refl _ _).alloc (Nat.le_refl _) o) h
theorem Act1.drew (h : Act1 w wx gs g9 g10 A n c x3 x4 x9 x10) : Act1 w wx.drew gs g9 g10 A n c x3 x4 x9 x10 := Act1.call ((Below.refl _ _).drew) h
theorem row_heap {base e g t na ca : Nat} {Aa : Option Addr} {l : List UInt8} {cs : Array Value} (hg : wx.grownBy w2 (Value.slice Aa na ca).ownBlock) (ho : OwB wx base e Aa na ca l) (hne : t ≠ e)
    (h : wx.heap[g]? = some (.cells cs t (0, 0))) : w2.heap[g]? = some (.cells cs t (0, 0)) := by
  have hlt := Blk.lt h
  have hn : some g ≠ (Value.slice Aa na ca).ownBlock := Ne.symm (own_blk_ne ho.own h (Ne.symm hne))
  exact (hg.block g hlt hn).trans h
theorem Act1.append {base na ca : Nat} {Aa : Option Addr} {l : List UInt8} (hg : wx.grownBy w2 (Value.slice Aa na ca).ownBlock) (ho : OwB wx base 5 Aa na ca l) (hb : w.heap.size ≤ base)
    (h : Act1 w wx gs g9 g10 A n c x3 x4 x9 x10) : Act1 w w2 gs g9 g10 A n c x3 x4 x9 x10 := by
  obtain ⟨⟨b9, b10, ne, r6, r7, gr⟩, h3, h4, h9, h10, ⟨k, sd, hk, h0⟩⟩ := h
  have gr2 : w.grownBy w2 (some gs) := ⟨hg.os.trans gr.os, hg.tape.trans gr.tape, hg.output.trans gr.output, Nat.le_trans gr.size hg.size, fun i hi hne => (hg.block i (Nat.lt_of_lt_of_le hi gr.size) (fun e => by
    have := (ho.own.lt i e.symm).1
    omega)).trans (gr.block i hi hne)⟩
  exact ⟨⟨b9, b10, ne, row_heap hg ho (by decide) r6, row_heap hg ho (by decide) r7, gr2⟩, row_heap hg ho (by decide) h3, row_heap hg ho (by decide) h4, row_heap hg ho (by decide) h9, row_heap hg ho (by decide) h10, ⟨k, sd, hk, row_heap hg ho (by decide) h0⟩⟩
theorem Act1.set9 {i : Nat} {u : Value} (hgs : gs < w.heap.size) (h : Act1 w wx gs g9 g10 A n c x3 x4 x9 x10) : Act1 w (wx.setCell ⟨g9, i, none⟩ u) gs g9 g10 A n c x3 x4 (x9.setIfInBounds i u) x10 := by
  obtain ⟨⟨b9, b10, ne, r6, r7, gr⟩, h3, h4, h9, h10, h0⟩ := h
  exact ⟨⟨b9, b10, ne, heap_far (by omega) r6, heap_far (by omega) r7, gr_set gr (by simp; omega)⟩, heap_far (by omega) h3, heap_far (by omega) h4, heap_near h9, heap_far (by omega) h10, SrcAt.set (by omega) h0⟩
theorem Act1.set10 {i : Nat} {u : Value} (hgs : gs < w.heap.size) (h : Act1 w wx gs g9 g10 A n c x3 x4 x9 x10) : Act1 w (wx.setCell ⟨g10, i, none⟩ u) gs g9 g10 A n c x3 x4 x9 (x10.setIfInBounds i u) := by
  obtain ⟨⟨b9, b10, ne, r6, r7, gr⟩, h3, h4, h9, h10, h0⟩ := h
  exact ⟨⟨b9, b10, ne, heap_far (by omega) r6, heap_far (by omega) r7, gr_set gr (by simp; omega)⟩, heap_far (by omega) h3, heap_far (by omega) h4, heap_far (by omega) h9, heap_near h10, SrcAt.set (by omega) h0⟩
theorem Act1.sets {p9 q9 p10 q10 a0 a1 b0 b1 : Value} (hgs : gs < w.heap.size) (h : Act1 w wx gs g9 g10 A n c x3 x4 #[p9, q9] #[p10, q10]) :
    Act1 w ((((wx.setCell ⟨g9, 0, none⟩ a0).setCell ⟨g9, 1, none⟩ a1).setCell ⟨g10, 0, none⟩ b0).setCell ⟨g10, 1, none⟩ b1) gs g9 g10 A n c x3 x4 #[a0, a1] #[b0, b1] :=
  Act1.set10 hgs (Act1.set10 hgs (Act1.set9 hgs (Act1.set9 hgs h)))
theorem Act1.own9 {base i nx cx : Nat} {u : Value} {Ax : Option Addr} {lx : List UInt8} (h : Act1 w wx gs g9 g10 A n c x3 x4 x9 x10) (ho : OwB wx base 5 Ax nx cx lx) : OwB (wx.setCell ⟨g9, i, none⟩ u) base 5 Ax nx cx lx :=
  OwB.setT h.2.2.2.1 (by decide) ho
theorem Act1.own10 {base i nx cx : Nat} {u : Value} {Ax : Option Addr} {lx : List UInt8} (h : Act1 w wx gs g9 g10 A n c x3 x4 x9 x10) (ho : OwB wx base 5 Ax nx cx lx) : OwB (wx.setCell ⟨g10, i, none⟩ u) base 5 Ax nx cx lx :=
  OwB.setT h.2.2.2.2.1 (by decide) ho
theorem Act1.owns {base nx cx : Nat} {Ax : Option Addr} {lx : List UInt8} {p9 q9 p10 q10 a0 a1 b0 b1 : Value} (hgs : gs < w.heap.size) (h : Act1 w wx gs g9 g10 A n c x3 x4 #[p9, q9] #[p10, q10]) (ho : OwB wx base 5 Ax nx cx lx) :
    OwB ((((wx.setCell ⟨g9, 0, none⟩ a0).setCell ⟨g9, 1, none⟩ a1).setCell ⟨g10, 0, none⟩ b0).setCell ⟨g10, 1, none⟩ b1) base 5 Ax nx cx lx :=
  Act1.own10 (Act1.set10 hgs (Act1.set9 hgs (Act1.set9 hgs h))) (Act1.own10 (Act1.set9 hgs (Act1.set9 hgs h)) (Act1.own9 (Act1.set9 hgs h) (Act1.own9 h ho)))
end

set_option maxRecDepth 100000 in
set_option maxHeartbeats 3200000 in
theorem act_any (w0 : World) (gs : Nat) (A : Option Addr) (n c : Nat) (zs : List Int) (Aa : Option Addr) (nd ca : Nat) (Ab : Option Addr) (cb : Nat) (l : List UInt8) (s : Int) (w : World)
    (hr : RdI w0 A n c zs) (hB : Below w0.heap.size w0 w) (hgs : w0.heap.size ≤ gs) (hgs2 : gs < w.heap.size) (hsrc : SrcAt w gs A n c)
    (hoa : OwB w w0.heap.size 5 Aa nd ca l) (hob : OwB w w0.heap.size 5 Ab nd cb l) (hv : validB nd s = true) (hn : nd ≤ 1000) :
    Calls Try.prog 26 #[.agg #[.slice Aa nd ca, .int .i64 s], .agg #[.slice Ab nd cb, .int .i64 s], .pointer (some ⟨gs, 0, none⟩)] w (RAct w w0.heap.size gs A n c nd) := by
  have hnx : ∀ (W : World) (m : Int), w.grownBy W (some gs) → SrcAt W gs A n c → 0 < m → m ≤ 4611686018427387904 → Calls Try.prog 28 #[.pointer (some ⟨gs, 0, none⟩), .int .i64 m] W (RNext W gs A n c m) :=
    fun W m h1 h2 h3 h4 => next_any w0 gs A n c zs m W hr (hB.grown h1 hB.size (fun k hk => by injection hk with hk; omega)) hgs h2 h3 h4
  have HN := Lib.hid hnx
  clear hnx
  go_enter Try.func26, Try.ntmps26
  go_upto_region 1 with fail
  go_cut [9, 10] (fun p9 p10 wx => ∃ g9 g10 : Nat, p9 = .pointer (some ⟨g9, 0, none⟩) ∧ p10 = .pointer (some ⟨g10, 0, none⟩) ∧ Act1 w wx gs g9 g10 A n c #[.slice Aa nd ca, .int .i64 s] #[.slice Ab nd cb, .int .i64 s] #[.slice Aa nd ca, .int .i64 s] #[.slice Ab nd cb, .int .i64 s])
  case first =>
    go_region
    all_goals
      go_wp2_with fail
      go_meet
      exact ⟨_, _, rfl, rfl, ⟨by simp, by simp, by simp, by (focus (repeat' first | with_reducible assumption | (with_reducible refine heap_drew ?_) | (with_reducible refine heap_drewN ?_) | (with_reducible refine heap_new ?_; focus (first | rfl | omega | (simp; done))) | (with_reducible refine heap_old ?_) | (with_reducible apply heap_near') | ((with_reducible show Array.setIfInBounds _ _ _ = _); rfl) | (with_reducible refine heap_far ?_ ?_; focus (first | omega | (simp; omega) | (simp; done))) | (with_reducible apply heap_grown; with_reducible assumption; (focus (first | omega | (simp; omega)))) | (with_reducible apply heap_call; with_reducible assumption))), by (focus (repeat' first | with_reducible assumption | (with_reducible refine heap_drew ?_) | (with_reducible refine heap_drewN ?_) | (with_reducible refine heap_new ?_; focus (first | rfl | omega | (simp; done))) | (with_reducible refine heap_old ?_) | (with_reducible apply heap_near') | ((with_reducible show Array.setIfInBounds _ _ _ = _); rfl) | (with_reducible refine heap_far ?_ ?_; focus (first | omega | (simp; omega) | (simp; done))) | (with_reducible apply heap_grown; with_reducible assumption; (focus (first | omega | (simp; omega)))) | (with_reducible apply heap_call; with_reducible assumption))), by (focus (repeat' first | with_reducible assumption | (with_reducible apply gr_refl) | (with_reducible apply gr_drew) | (with_reducible apply gr_drewN) | (with_reducible apply gr_alloc) | (with_reducible apply gr_set) | (with_reducible apply gr_next; with_reducible assumption) | (with_reducible apply gr_call; with_reducible assumption) | omega | (simp; done) | (simp; omega)))⟩, by (focus (repeat' first | with_reducible assumption | (with_reducible refine heap_drew ?_) | (with_reducible refine heap_drewN ?_) | (with_reducible refine heap_new ?_; focus (first | rfl | omega | (simp; done))) | (with_reducible refine heap_old ?_) | (with_reducible apply heap_near') | ((with_reducible show Array.setIfInBounds _ _ _ = _); rfl) | (with_reducible refine heap_far ?_ ?_; focus (first | omega | (simp; omega) | (simp; done))) | (with_reducible apply heap_grown; with_reducible assumption; (focus (first | omega | (simp; omega)))) | (with_reducible apply heap_call; with_reducible assumption))), by (focus (repeat' first | with_reducible assumption | (with_reducible refine heap_drew ?_) | (with_reducible refine heap_drewN ?_) | (with_reducible refine heap_new ?_; focus (first | rfl | omega | (simp; done))) | (with_reducible refine heap_old ?_) | (with_reducible apply heap_near') | ((with_reducible show Array.setIfInBounds _ _ _ = _); rfl) | (with_reducible refine heap_far ?_ ?_; focus (first | omega | (simp; omega) | (simp; done))) | (with_reducible apply heap_grown; with_reducible assumption; (focus (first | omega | (simp; omega)))) | (with_reducible apply heap_call; with_reducible assumption))), by (focus (repeat' first | with_reducible assumption | (with_reducible refine heap_drew ?_) | (with_reducible refine heap_drewN ?_) | (with_reducible refine heap_new ?_; focus (first | rfl | omega | (simp; done))) | (with_reducible refine heap_old ?_) | (with_reducible apply heap_near') | ((with_reducible show Array.setIfInBounds _ _ _ = _); rfl) | (with_reducible refine heap_far ?_ ?_; focus (first | omega | (simp; omega) | (simp; done))) | (with_reducible apply heap_grown; with_reducible assumption; (focus (first | omega | (simp; omega)))) | (with_reducible apply heap_call; with_reducible assumption))), by (focus (repeat' first | with_reducible assumption | (with_reducible refine heap_drew ?_) | (with_reducible refine heap_drewN ?_) | (with_reducible refine heap_new ?_; focus (first | rfl | omega | (simp; done))) | (with_reducible refine heap_old ?_) | (with_reducible apply heap_near') | ((with_reducible show Array.setIfInBounds _ _ _ = _); rfl) | (with_reducible refine heap_far ?_ ?_; focus (first | omega | (simp; omega) | (simp; done))) | (with_reducible apply heap_grown; with_reducible assumption; (focus (first | omega | (simp; omega)))) | (with_reducible apply heap_call; with_reducible assumption))), by (focus (repeat' first | with_reducible assumption | (with_reducible apply SrcAt.drew) | (with_reducible apply SrcAt.drewN) | (with_reducible apply SrcAt.alloc) | (with_reducible apply SrcAt.set) | (with_reducible apply SrcAt.call; with_reducible assumption) | omega | (simp; omega)))⟩
  case rest =>
    obtain ⟨g9, g10, rfl, rfl, hst⟩ := hcut
    have hgr0 := hst.1.gr
    have hs0 := hst.2.2.2.2.2
    go_upto_block 0 with (go_at_call 28; refine (HN.out _ _ ?_ ?_ ?_ ?_).mono ?_; (focus (focus (repeat' first | with_reducible assumption | (with_reducible apply gr_refl) | (with_reducible apply gr_drew) | (with_reducible apply gr_drewN) | (with_reducible apply gr_alloc) | (with_reducible apply gr_set) | (with_reducible apply gr_next; with_reducible assumption) | (with_reducible apply gr_call; with_reducible assumption) | omega | (simp; done) | (simp; omega)))); (focus (focus (repeat' first | with_reducible assumption | (with_reducible apply SrcAt.drew) | (with_reducible apply SrcAt.drewN) | (with_reducible apply SrcAt.alloc) | (with_reducible apply SrcAt.set) | (with_reducible apply SrcAt.call; with_reducible assumption) | omega | (simp; omega)))); (focus omega); (focus omega); rintro e w2 ⟨q2, rfl, q2a, q2b, hs2, hg2⟩)
    have hst2 := hst.next hgs2 hg2 hs2
    have hra : ∀ W : World, w.grownBy W (some gs) → RdB W Aa nd ca l := fun W hW => (OwB.next hW hsrc hoa).rd
    have hrb : ∀ W : World, w.grownBy W (some gs) → RdB W Ab nd cb l := fun W hW => (OwB.next hW hsrc hob).rd
    have HRA := Lib.hid hra
    have HRB := Lib.hid hrb
    clear hst hg2 hs2 hgr0 hs0 hra hrb
    go_cut [11, 12] (fun p11 p12 wx => p11 = .int .i64 0 ∧ p12 = .int .i64 0 ∧ Act2 w wx gs g9 g10 w0.heap.size A n c nd)
    case first =>
      have hq : q2 = 0 ∨ q2 = 1 ∨ q2 = 2 ∨ q2 = 3 ∨ q2 = 4 ∨ q2 = 5 := by omega
      clear q2a q2b
      obtain ⟨v1, v2, v3⟩ := valid_le hv
      have b9 := hst2.1.b9
      have b10 := hst2.1.b10
      have ne9 := hst2.1.ne
      have ne10 := Ne.symm ne9
      rcases hq with rfl | rfl | rfl | rfl | rfl | rfl
      · have gr2 := hst2.1.gr
        have sr2 := hst2.2.2.2.2.2
        go_wp2_with (go_at_call 28; refine (HN.out _ _ ?_ ?_ ?_ ?_).mono ?_; (focus (focus (repeat' first | with_reducible assumption | (with_reducible apply gr_refl) | (with_reducible apply gr_drew) | (with_reducible apply gr_drewN) | (with_reducible apply gr_alloc) | (with_reducible apply gr_set) | (with_reducible apply gr_next; with_reducible assumption) | (with_reducible apply gr_call; with_reducible assumption) | omega | (simp; done) | (simp; omega)))); (focus (focus (repeat' first | with_reducible assumption | (with_reducible apply SrcAt.drew) | (with_reducible apply SrcAt.drewN) | (with_reducible apply SrcAt.alloc) | (with_reducible apply SrcAt.set) | (with_reducible apply SrcAt.call; with_reducible assumption) | omega | (simp; omega)))); (focus omega); (focus omega); rintro e w5 ⟨q5, rfl, q5a, q5b, hs5, hg5⟩)
        have hst5 := hst2.next hgs2 hg5 hs5
        clear hg5 hs5 gr2 sr2 hst2
        obtain ⟨k5, rfl⟩ := Int.eq_ofNat_of_zero_le q5a
        go_loopw [13, 14] (fun d i wr => ∃ (j : Nat) (Ad : Option Addr) (nl cl : Nat) (ld : List UInt8), j ≤ 5 ∧ d = .slice Ad nl cl ∧ i = .int .i64 j ∧ OwB wr w.heap.size 5 Ad nl cl ld ∧ nl + j ≤ 5 ∧
          Act1 w wr gs g9 g10 A n c #[.slice Aa nd ca, .int .i64 s] #[.slice Ab nd cb, .int .i64 s] #[.slice Aa nd ca, .int .i64 s] #[.slice Ab nd cb, .int .i64 s]) (fun _ i _ => (intOf i).toNat)
        case atStart => exact ⟨k5, none, 0, 0, [], by omega, rfl, rfl, OwB.nil _ _ _, by omega, hst5⟩
        case round =>
          obtain ⟨j, Ad, nl, cl, ld, hj5, rfl, rfl, hod, hnl, hst⟩ := hrel
          clear hst5
          cases j with
          | zero =>
            have k3a := Blk.cell hst.2.1
            have hn41 : g9 ≠ w.heap.size + 1 := by omega
            have hn42 : w.heap.size + 1 ≠ g9 := by omega
            go_wp2_with (first
              | (go_at_call 19; refine (write_ok Aa nd ca l s Ad nl cl ld _ (HRA.out _ ?_) ?_ hv (by omega)).mono ?_; (focus exact hst.1.gr); (focus exact hod.rd); rintro e w7 ⟨v7, rfl, ⟨d7, rfl, ⟨A7, n7, c7, rfl, ho7⟩⟩, hb7⟩; (have hn7 : n7 = nd + nl := by rw [ho7.len, List.length_append, ← hoa.len, ← hod.len]); subst hn7; have hst7 := Act1.call hb7 hst; have k4b := Blk.cell hst7.2.2.1; have h9b := hst7.2.2.2.1; have k9b := Blk.cell h9b; have f9b := Blk.frozen h9b)
              | (go_at_call 21; refine (rwrite_ok Ab nd cb l s Ad nl cl ld _ (HRB.out _ ?_) ?_ hv (by omega)).mono ?_; (focus exact (Act1.set9 hgs2 (Act1.set9 hgs2 hst7)).1.gr); (focus exact (Act1.own9 (Act1.set9 hgs2 hst7) (Act1.own9 hst7 (OwB.call hb7 hod))).rd); rintro e w8 ⟨v8, rfl, ⟨d8, rfl, ⟨A8, n8, c8, rfl, ho8⟩⟩, hb8⟩; (have hn8 : n8 = nd + nl := by rw [ho8.len, List.length_append, ← hoa.len, ← hod.len]); subst hn8; have hst8 := Act1.call hb8 (Act1.set9 hgs2 (Act1.set9 hgs2 hst7)); have h10c := hst8.2.2.2.2.1; have k10c := Blk.cell h10c; have f10c := Blk.frozen h10c))
            go_meet
            have hz0 : w0.heap.size ≤ wr.heap.size := Nat.le_trans hB.size hst.1.gr.size
            have hz1 : w0.heap.size ≤ w7.heap.size := Nat.le_trans hz0 hb7.size
            have F := Act1.set10 (i := 1) (u := .int .i64 s) hgs2 (Act1.set10 (i := 0) (u := .slice A8 (nd + nl) c8) hgs2 hst8)
            exact ⟨rfl, rfl, _, _, A7, nd + nl, c7, A8, c8, l ++ ld, s, F,
              Act1.own10 (Act1.set10 hgs2 hst8) (Act1.own10 hst8 (OwB.call hb8 (Act1.own9 (Act1.set9 hgs2 hst7) (Act1.own9 hst7 (OwB.mono ho7 hz0))))),
              Act1.own10 (Act1.set10 hgs2 hst8) (Act1.own10 hst8 (OwB.mono ho8 (by simpa [size_set] using hz1))), valid_more2 hv (by omega) (by omega), by omega⟩
          | succ j =>
            have gr2 := hst.1.gr
            have sr2 := hst.2.2.2.2.2
            obtain ⟨i0, hi0, hz0', hz1', hz2'⟩ := u8_parts
            go_wp2_with (first
              | ((go_at_call 28; refine (HN.out _ _ ?_ ?_ ?_ ?_).mono ?_; (focus (focus (repeat' first | with_reducible assumption | (with_reducible apply gr_refl) | (with_reducible apply gr_drew) | (with_reducible apply gr_drewN) | (with_reducible apply gr_alloc) | (with_reducible apply gr_set) | (with_reducible apply gr_next; with_reducible assumption) | (with_reducible apply gr_call; with_reducible assumption) | omega | (simp; done) | (simp; omega)))); (focus (focus (repeat' first | with_reducible assumption | (with_reducible apply SrcAt.drew) | (with_reducible apply SrcAt.drewN) | (with_reducible apply SrcAt.alloc) | (with_reducible apply SrcAt.set) | (with_reducible apply SrcAt.call; with_reducible assumption) | omega | (simp; omega)))); (focus omega); (focus omega); rintro e w6 ⟨q6, rfl, q6a, q6b, hs6, hg6⟩); have hst6 := hst.next hgs2 hg6 hs6; have hod6 := OwB.next hg6 sr2 hod)
              | (at_builtin; refine wpList_append_b _ rfl (.tmp 45) (.tmp 49) _ rfl w.heap.size 5 i0 Try.underlying22 hi0 hz0' hz1' hz2' Ad nl cl ld rfl (OwB.alloc _ hod6) (some ⟨w6.heap.size, 0, none⟩) 1 1 [low8 q6] rfl ?_ ?_ ?_ ?_; (focus exact RdB.lit (cs := #[.int .u8 q6]) (heap_new_o rfl) rfl (one_byte q6 q6a q6b) (Nat.le_refl _) (by unfold maxLen; omega)); (focus omega); (focus exact (hst6.alloc).1.gr.size); intro A7 c7 w7 ho7 hg7; have hst7 := Act1.append hg7 (OwB.alloc _ hod6) (Nat.le_refl _) hst6.alloc))
            go_roundw
            case rel => exact ⟨j, A7, nl + 1, c7, _, by omega, rfl, by go_num, ho7, by omega, hst7⟩
            case measure => simp [intOf]
      · have gr2 := hst2.1.gr
        have sr2 := hst2.2.2.2.2.2
        go_wp2_with (go_at_call 28; refine (HN.out _ _ ?_ ?_ ?_ ?_).mono ?_; (focus (focus (repeat' first | with_reducible assumption | (with_reducible apply gr_refl) | (with_reducible apply gr_drew) | (with_reducible apply gr_drewN) | (with_reducible apply gr_alloc) | (with_reducible apply gr_set) | (with_reducible apply gr_next; with_reducible assumption) | (with_reducible apply gr_call; with_reducible assumption) | omega | (simp; done) | (simp; omega)))); (focus (focus (repeat' first | with_reducible assumption | (with_reducible apply SrcAt.drew) | (with_reducible apply SrcAt.drewN) | (with_reducible apply SrcAt.alloc) | (with_reducible apply SrcAt.set) | (with_reducible apply SrcAt.call; with_reducible assumption) | omega | (simp; omega)))); (focus omega); (focus omega); rintro e w5 ⟨q5, rfl, q5a, q5b, hs5, hg5⟩)
        have hst5 := hst2.next hgs2 hg5 hs5
        clear hg5 hs5 gr2 sr2 hst2
        obtain ⟨k5, rfl⟩ := Int.eq_ofNat_of_zero_le q5a
        go_loopw [13, 14] (fun d i wr => ∃ (j : Nat) (Ad : Option Addr) (nl cl : Nat) (ld : List UInt8), j ≤ 5 ∧ d = .slice Ad nl cl ∧ i = .int .i64 j ∧ OwB wr w.heap.size 5 Ad nl cl ld ∧ nl + j ≤ 5 ∧
          Act1 w wr gs g9 g10 A n c #[.slice Aa nd ca, .int .i64 s] #[.slice Ab nd cb, .int .i64 s] #[.slice Aa nd ca, .int .i64 s] #[.slice Ab nd cb, .int .i64 s]) (fun _ i _ => (intOf i).toNat)
        case atStart => exact ⟨k5, none, 0, 0, [], by omega, rfl, rfl, OwB.nil _ _ _, by omega, hst5⟩
        case round =>
          obtain ⟨j, Ad, nl, cl, ld, hj5, rfl, rfl, hod, hnl, hst⟩ := hrel
          clear hst5
          cases j with
          | zero =>
            have k3a := Blk.cell hst.2.1
            have hn41 : g9 ≠ w.heap.size + 1 := by omega
            have hn42 : w.heap.size + 1 ≠ g9 := by omega
            go_wp2_with (first
              | (go_at_call 19; refine (write_ok Aa nd ca l s Ad nl cl ld _ (HRA.out _ ?_) ?_ hv (by omega)).mono ?_; (focus exact hst.1.gr); (focus exact hod.rd); rintro e w7 ⟨v7, rfl, ⟨d7, rfl, ⟨A7, n7, c7, rfl, ho7⟩⟩, hb7⟩; (have hn7 : n7 = nd + nl := by rw [ho7.len, List.length_append, ← hoa.len, ← hod.len]); subst hn7; have hst7 := Act1.call hb7 hst; have k4b := Blk.cell hst7.2.2.1; have h9b := hst7.2.2.2.1; have k9b := Blk.cell h9b; have f9b := Blk.frozen h9b)
              | (go_at_call 21; refine (rwrite_ok Ab nd cb l s Ad nl cl ld _ (HRB.out _ ?_) ?_ hv (by omega)).mono ?_; (focus exact (Act1.set9 hgs2 (Act1.set9 hgs2 hst7)).1.gr); (focus exact (Act1.own9 (Act1.set9 hgs2 hst7) (Act1.own9 hst7 (OwB.call hb7 hod))).rd); rintro e w8 ⟨v8, rfl, ⟨d8, rfl, ⟨A8, n8, c8, rfl, ho8⟩⟩, hb8⟩; (have hn8 : n8 = nd + nl := by rw [ho8.len, List.length_append, ← hoa.len, ← hod.len]); subst hn8; have hst8 := Act1.call hb8 (Act1.set9 hgs2 (Act1.set9 hgs2 hst7)); have h10c := hst8.2.2.2.2.1; have k10c := Blk.cell h10c; have f10c := Blk.frozen h10c))
            go_meet
            have hz0 : w0.heap.size ≤ wr.heap.size := Nat.le_trans hB.size hst.1.gr.size
            have hz1 : w0.heap.size ≤ w7.heap.size := Nat.le_trans hz0 hb7.size
            have F := Act1.set10 (i := 1) (u := .int .i64 s) hgs2 (Act1.set10 (i := 0) (u := .slice A8 (nd + nl) c8) hgs2 hst8)
            exact ⟨rfl, rfl, _, _, A7, nd + nl, c7, A8, c8, l ++ ld, s, F,
              Act1.own10 (Act1.set10 hgs2 hst8) (Act1.own10 hst8 (OwB.call hb8 (Act1.own9 (Act1.set9 hgs2 hst7) (Act1.own9 hst7 (OwB.mono ho7 hz0))))),
              Act1.own10 (Act1.set10 hgs2 hst8) (Act1.own10 hst8 (OwB.mono ho8 (by simpa [size_set] using hz1))), valid_more2 hv (by omega) (by omega), by omega⟩
          | succ j =>
            have gr2 := hst.1.gr
            have sr2 := hst.2.2.2.2.2
            obtain ⟨i0, hi0, hz0', hz1', hz2'⟩ := u8_parts
            go_wp2_with (first
              | ((go_at_call 28; refine (HN.out _ _ ?_ ?_ ?_ ?_).mono ?_; (focus (focus (repeat' first | with_reducible assumption | (with_reducible apply gr_refl) | (with_reducible apply gr_drew) | (with_reducible apply gr_drewN) | (with_reducible apply gr_alloc) | (with_reducible apply gr_set) | (with_reducible apply gr_next; with_reducible assumption) | (with_reducible apply gr_call; with_reducible assumption) | omega | (simp; done) | (simp; omega)))); (focus (focus (repeat' first | with_reducible assumption | (with_reducible apply SrcAt.drew) | (with_reducible apply SrcAt.drewN) | (with_reducible apply SrcAt.alloc) | (with_reducible apply SrcAt.set) | (with_reducible apply SrcAt.call; with_reducible assumption) | omega | (simp; omega)))); (focus omega); (focus omega); rintro e w6 ⟨q6, rfl, q6a, q6b, hs6, hg6⟩); have hst6 := hst.next hgs2 hg6 hs6; have hod6 := OwB.next hg6 sr2 hod)
              | (at_builtin; refine wpList_append_b _ rfl (.tmp 45) (.tmp 49) _ rfl w.heap.size 5 i0 Try.underlying22 hi0 hz0' hz1' hz2' Ad nl cl ld rfl (OwB.alloc _ hod6) (some ⟨w6.heap.size, 0, none⟩) 1 1 [low8 q6] rfl ?_ ?_ ?_ ?_; (focus exact RdB.lit (cs := #[.int .u8 q6]) (heap_new_o rfl) rfl (one_byte q6 q6a q6b) (Nat.le_refl _) (by unfold maxLen; omega)); (focus omega); (focus exact (hst6.alloc).1.gr.size); intro A7 c7 w7 ho7 hg7; have hst7 := Act1.append hg7 (OwB.alloc _ hod6) (Nat.le_refl _) hst6.alloc))
            go_roundw
            case rel => exact ⟨j, A7, nl + 1, c7, _, by omega, rfl, by go_num, ho7, by omega, hst7⟩
            case measure => simp [intOf]
      · have gr2 := hst2.1.gr
        have sr2 := hst2.2.2.2.2.2
        go_wp2_with (go_at_call 28; refine (HN.out _ _ ?_ ?_ ?_ ?_).mono ?_; (focus (focus (repeat' first | with_reducible assumption | (with_reducible apply gr_refl) | (with_reducible apply gr_drew) | (with_reducible apply gr_drewN) | (with_reducible apply gr_alloc) | (with_reducible apply gr_set) | (with_reducible apply gr_next; with_reducible assumption) | (with_reducible apply gr_call; with_reducible assumption) | omega | (simp; done) | (simp; omega)))); (focus (focus (repeat' first | with_reducible assumption | (with_reducible apply SrcAt.drew) | (with_reducible apply SrcAt.drewN) | (with_reducible apply SrcAt.alloc) | (with_reducible apply SrcAt.set) | (with_reducible apply SrcAt.call; with_reducible assumption) | omega | (simp; omega)))); (focus omega); (focus omega); rintro e w5 ⟨q5, rfl, q5a, q5b, hs5, hg5⟩)
        have hst5 := hst2.next hgs2 hg5 hs5
        clear hg5 hs5 gr2 sr2 hst2
        obtain ⟨k5, rfl⟩ := Int.eq_ofNat_of_zero_le q5a
        go_loopw [13, 14] (fun d i wr => ∃ (j : Nat) (Ad : Option Addr) (nl cl : Nat) (ld : List UInt8), j ≤ 5 ∧ d = .slice Ad nl cl ∧ i = .int .i64 j ∧ OwB wr w.heap.size 5 Ad nl cl ld ∧ nl + j ≤ 5 ∧
          Act1 w wr gs g9 g10 A n c #[.slice Aa nd ca, .int .i64 s] #[.slice Ab nd cb, .int .i64 s] #[.slice Aa nd ca, .int .i64 s] #[.slice Ab nd cb, .int .i64 s]) (fun _ i _ => (intOf i).toNat)
        case atStart => exact ⟨k5, none, 0, 0, [], by omega, rfl, rfl, OwB.nil _ _ _, by omega, hst5⟩
        case round =>
          obtain ⟨j, Ad, nl, cl, ld, hj5, rfl, rfl, hod, hnl, hst⟩ := hrel
          clear hst5
          cases j with
          | zero =>
            have k3a := Blk.cell hst.2.1
            have hn41 : g9 ≠ w.heap.size + 1 := by omega
            have hn42 : w.heap.size + 1 ≠ g9 := by omega
            go_wp2_with (first
              | (go_at_call 19; refine (write_ok Aa nd ca l s Ad nl cl ld _ (HRA.out _ ?_) ?_ hv (by omega)).mono ?_; (focus exact hst.1.gr); (focus exact hod.rd); rintro e w7 ⟨v7, rfl, ⟨d7, rfl, ⟨A7, n7, c7, rfl, ho7⟩⟩, hb7⟩; (have hn7 : n7 = nd + nl := by rw [ho7.len, List.length_append, ← hoa.len, ← hod.len]); subst hn7; have hst7 := Act1.call hb7 hst; have k4b := Blk.cell hst7.2.2.1; have h9b := hst7.2.2.2.1; have k9b := Blk.cell h9b; have f9b := Blk.frozen h9b)
              | (go_at_call 21; refine (rwrite_ok Ab nd cb l s Ad nl cl ld _ (HRB.out _ ?_) ?_ hv (by omega)).mono ?_; (focus exact (Act1.set9 hgs2 (Act1.set9 hgs2 hst7)).1.gr); (focus exact (Act1.own9 (Act1.set9 hgs2 hst7) (Act1.own9 hst7 (OwB.call hb7 hod))).rd); rintro e w8 ⟨v8, rfl, ⟨d8, rfl, ⟨A8, n8, c8, rfl, ho8⟩⟩, hb8⟩; (have hn8 : n8 = nd + nl := by rw [ho8.len, List.length_append, ← hoa.len, ← hod.len]); subst hn8; have hst8 := Act1.call hb8 (Act1.set9 hgs2 (Act1.set9 hgs2 hst7)); have h10c := hst8.2.2.2.2.1; have k10c := Blk.cell h10c; have f10c := Blk.frozen h10c))
            go_meet
            have hz0 : w0.heap.size ≤ wr.heap.size := Nat.le_trans hB.size hst.1.gr.size
            have hz1 : w0.heap.size ≤ w7.heap.size := Nat.le_trans hz0 hb7.size
            have F := Act1.set10 (i := 1) (u := .int .i64 s) hgs2 (Act1.set10 (i := 0) (u := .slice A8 (nd + nl) c8) hgs2 hst8)
            exact ⟨rfl, rfl, _, _, A7, nd + nl, c7, A8, c8, l ++ ld, s, F,
              Act1.own10 (Act1.set10 hgs2 hst8) (Act1.own10 hst8 (OwB.call hb8 (Act1.own9 (Act1.set9 hgs2 hst7) (Act1.own9 hst7 (OwB.mono ho7 hz0))))),
              Act1.own10 (Act1.set10 hgs2 hst8) (Act1.own10 hst8 (OwB.mono ho8 (by simpa [size_set] using hz1))), valid_more2 hv (by omega) (by omega), by omega⟩
          | succ j =>
            have gr2 := hst.1.gr
            have sr2 := hst.2.2.2.2.2
            obtain ⟨i0, hi0, hz0', hz1', hz2'⟩ := u8_parts
            go_wp2_with (first
              | ((go_at_call 28; refine (HN.out _ _ ?_ ?_ ?_ ?_).mono ?_; (focus (focus (repeat' first | with_reducible assumption | (with_reducible apply gr_refl) | (with_reducible apply gr_drew) | (with_reducible apply gr_drewN) | (with_reducible apply gr_alloc) | (with_reducible apply gr_set) | (with_reducible apply gr_next; with_reducible assumption) | (with_reducible apply gr_call; with_reducible assumption) | omega | (simp; done) | (simp; omega)))); (focus (focus (repeat' first | with_reducible assumption | (with_reducible apply SrcAt.drew) | (with_reducible apply SrcAt.drewN) | (with_reducible apply SrcAt.alloc) | (with_reducible apply SrcAt.set) | (with_reducible apply SrcAt.call; with_reducible assumption) | omega | (simp; omega)))); (focus omega); (focus omega); rintro e w6 ⟨q6, rfl, q6a, q6b, hs6, hg6⟩); have hst6 := hst.next hgs2 hg6 hs6; have hod6 := OwB.next hg6 sr2 hod)
              | (at_builtin; refine wpList_append_b _ rfl (.tmp 45) (.tmp 49) _ rfl w.heap.size 5 i0 Try.underlying22 hi0 hz0' hz1' hz2' Ad nl cl ld rfl (OwB.alloc _ hod6) (some ⟨w6.heap.size, 0, none⟩) 1 1 [low8 q6] rfl ?_ ?_ ?_ ?_; (focus exact RdB.lit (cs := #[.int .u8 q6]) (heap_new_o rfl) rfl (one_byte q6 q6a q6b) (Nat.le_refl _) (by unfold maxLen; omega)); (focus omega); (focus exact (hst6.alloc).1.gr.size); intro A7 c7 w7 ho7 hg7; have hst7 := Act1.append hg7 (OwB.alloc _ hod6) (Nat.le_refl _) hst6.alloc))
            go_roundw
            case rel => exact ⟨j, A7, nl + 1, c7, _, by omega, rfl, by go_num, ho7, by omega, hst7⟩
            case measure => simp [intOf]
      · have hsy : syS l s = (nd : Int) := by simp [syS, ← hoa.len, hv]
        have hvn : validB nd (nd : Int) = true := valid_full v3
        have h3a := hst2.2.1; have h4a := hst2.2.2.1
        go_wp2_with fail
        go_region_held3 (fun W => W.cell? ⟨w.heap.size, 0, none⟩ = some (.slice Aa nd ca) ∧ W.cell? ⟨w.heap.size, 1, none⟩ = some (.int .i64 s) ∧ W.cell? ⟨w.heap.size + 1, 0, none⟩ = some (.slice Ab nd cb) ∧ W.cell? ⟨w.heap.size + 1, 1, none⟩ = some (.int .i64 s))
          (exact ⟨cellH (cs := #[.slice Aa nd ca, .int .i64 s]) (t := 24) (by (focus (repeat' first | with_reducible assumption | (with_reducible refine heap_drew ?_) | (with_reducible refine heap_drewN ?_) | (with_reducible refine heap_new ?_; focus (first | rfl | omega | (simp; done))) | (with_reducible refine heap_old ?_) | (with_reducible apply heap_near') | ((with_reducible show Array.setIfInBounds _ _ _ = _); rfl) | (with_reducible refine heap_far ?_ ?_; focus (first | omega | (simp; omega) | (simp; done))) | (with_reducible apply heap_grown; with_reducible assumption; (focus (first | omega | (simp; omega)))) | (with_reducible apply heap_call; with_reducible assumption)))) 0, cellH (cs := #[.slice Aa nd ca, .int .i64 s]) (t := 24) (by (focus (repeat' first | with_reducible assumption | (with_reducible refine heap_drew ?_) | (with_reducible refine heap_drewN ?_) | (with_reducible refine heap_new ?_; focus (first | rfl | omega | (simp; done))) | (with_reducible refine heap_old ?_) | (with_reducible apply heap_near') | ((with_reducible show Array.setIfInBounds _ _ _ = _); rfl) | (with_reducible refine heap_far ?_ ?_; focus (first | omega | (simp; omega) | (simp; done))) | (with_reducible apply heap_grown; with_reducible assumption; (focus (first | omega | (simp; omega)))) | (with_reducible apply heap_call; with_reducible assumption)))) 1, cellH (cs := #[.slice Ab nd cb, .int .i64 s]) (t := 24) (by (focus (repeat' first | with_reducible assumption | (with_reducible refine heap_drew ?_) | (with_reducible refine heap_drewN ?_) | (with_reducible refine heap_new ?_; focus (first | rfl | omega | (simp; done))) | (with_reducible refine heap_old ?_) | (with_reducible apply heap_near') | ((with_reducible show Array.setIfInBounds _ _ _ = _); rfl) | (with_reducible refine heap_far ?_ ?_; focus (first | omega | (simp; omega) | (simp; done))) | (with_reducible apply heap_grown; with_reducible assumption; (focus (first | omega | (simp; omega)))) | (with_reducible apply heap_call; with_reducible assumption)))) 0, cellH (cs := #[.slice Ab nd cb, .int .i64 s]) (t := 24) (by (focus (repeat' first | with_reducible assumption | (with_reducible refine heap_drew ?_) | (with_reducible refine heap_drewN ?_) | (with_reducible refine heap_new ?_; focus (first | rfl | omega | (simp; done))) | (with_reducible refine heap_old ?_) | (with_reducible apply heap_near') | ((with_reducible show Array.setIfInBounds _ _ _ = _); rfl) | (with_reducible refine heap_far ?_ ?_; focus (first | omega | (simp; omega) | (simp; done))) | (with_reducible apply heap_grown; with_reducible assumption; (focus (first | omega | (simp; omega)))) | (with_reducible apply heap_call; with_reducible assumption)))) 1⟩)
          (first
            | (go_at_call 12; refine (sync_ok Aa nd ca l s _ (HRA.out _ ?_) hv).mono ?_; (focus exact gr_drew hst2.1.gr); rintro e w3 ⟨v3, rfl, ⟨A3, n3, c3, rfl, ho3⟩, hb3⟩; (obtain rfl : nd = n3 := hoa.len.trans ho3.len.symm); have hst3 := Act1.call hb3 hst2.drew; clear h3a h4a; have h3b := hst3.2.1; have h4b := hst3.2.2.1)
            | (go_at_call 13; refine (rsync_any Ab nd cb l s _ (HRB.out _ ?_)).mono ?_; (focus exact hst3.1.gr); rintro e w4 ⟨v4, rfl, rfl, hb4⟩; have hst4 := Act1.call hb4 hst3; clear h3b h4b; have h3c := hst4.2.1; have h4c := hst4.2.2.1; have h9c := hst4.2.2.2.1; have h10c := hst4.2.2.2.2.1; have k3c := Blk.cell h3c; have k4c := Blk.cell h4c; have k9c := Blk.cell h9c; have k10c := Blk.cell h10c; have f9c := Blk.frozen h9c; have f10c := Blk.frozen h10c; clear k3c k4c))
        go_wp2_with fail
        go_meet
        have hz0 : w0.heap.size ≤ w2.heap.size := Nat.le_trans hB.size hst2.1.gr.size
        have F := Act1.sets (a0 := .slice A3 nd c3) (a1 := .int .i64 (nd : Int)) (b0 := .slice Ab nd cb) (b1 := .int .i64 (nd : Int)) hgs2 hst4
        exact ⟨rfl, rfl, _, _, A3, nd, c3, Ab, cb, l, (nd : Int), F, Act1.owns hgs2 hst4 (OwB.call hb4 (OwB.mono ho3 (by simpa using hz0))), OwB.next F.1.gr hsrc hob, hvn, by omega⟩
      · have gr2 := hst2.1.gr
        have sr2 := hst2.2.2.2.2.2
        have k4a := Blk.cell hst2.2.2.1
        have hn41 : g9 ≠ w.heap.size + 1 := by omega
        have hn42 : w.heap.size + 1 ≠ g9 := by omega
        go_wp2_with fail
        (go_at_call 28; refine (HN.out _ _ ?_ ?_ ?_ ?_).mono ?_; (focus (focus (repeat' first | with_reducible assumption | (with_reducible apply gr_refl) | (with_reducible apply gr_drew) | (with_reducible apply gr_drewN) | (with_reducible apply gr_alloc) | (with_reducible apply gr_set) | (with_reducible apply gr_next; with_reducible assumption) | (with_reducible apply gr_call; with_reducible assumption) | omega | (simp; done) | (simp; omega)))); (focus (focus (repeat' first | with_reducible assumption | (with_reducible apply SrcAt.drew) | (with_reducible apply SrcAt.drewN) | (with_reducible apply SrcAt.alloc) | (with_reducible apply SrcAt.set) | (with_reducible apply SrcAt.call; with_reducible assumption) | omega | (simp; omega)))); (focus omega); (focus omega); rintro e w5 ⟨q5, rfl, q5a, q5b, hs5, hg5⟩)
        have hst5 := hst2.next hgs2 hg5 hs5
        clear hg5 hs5 gr2 sr2 k4a hst2
        obtain ⟨k, rfl⟩ := Int.eq_ofNat_of_zero_le q5a
        have hkn : k ≤ nd := by omega
        obtain ⟨M, hM, hM0, hM1⟩ : ∃ M : Int, min s (k : Int) = M ∧ 0 ≤ M ∧ M ≤ k := ⟨min s k, rfl, by omega, by omega⟩
        have hc1 : ∀ W : World, RdB W Aa nd ca l → Calls Try.prog 22 #[.agg #[.slice Aa nd ca, .int .i64 s], .int .i64 k] W (RDiskE W (l.take k) M 0) := fun W hW => by
          rw [← hM]; exact cut_ok Aa nd ca k l s W hW hv hkn
        have hc2 : ∀ W : World, RdB W Ab nd cb l → Calls Try.prog 23 #[.agg #[.slice Ab nd cb, .int .i64 s], .int .i64 k] W (RDiskE W (l.take k) M 0) := fun W hW => by
          rw [← hM]; exact rcut_ok Ab nd cb k l s W hW hv hkn
        have hlk : (l.take k).length = k := by rw [List.length_take, ← hoa.len]; omega
        have HC1 := Lib.hid hc1
        have HC2 := Lib.hid hc2
        have HLK := Lib.hid hlk
        have hvM : validB k M = true := by simp [validB]; omega
        clear hc1 hc2 hM hlk
        have k3a := Blk.cell hst5.2.1
        go_wp2_with (first
          | (go_at_call 22; refine (HC1.out _ (HRA.out _ ?_)).mono ?_; (focus exact hst5.1.gr); rintro e w7 ⟨v7, rfl, ⟨d7, rfl, ⟨A7, n7, c7, rfl, ho7⟩⟩, hb7⟩; (obtain rfl : k = n7 := (ho7.len.trans HLK.out).symm); have hst7 := Act1.call hb7 hst5; have k4b := Blk.cell hst7.2.2.1; have h9b := hst7.2.2.2.1; have k9b := Blk.cell h9b; have f9b := Blk.frozen h9b)
          | (go_at_call 23; refine (HC2.out _ (HRB.out _ ?_)).mono ?_; (focus exact (Act1.set9 hgs2 (Act1.set9 hgs2 hst7)).1.gr); rintro e w8 ⟨v8, rfl, ⟨d8, rfl, ⟨A8, n8, c8, rfl, ho8⟩⟩, hb8⟩; (obtain rfl : k = n8 := (ho8.len.trans HLK.out).symm); have hst8 := Act1.call hb8 (Act1.set9 hgs2 (Act1.set9 hgs2 hst7)); have h10c := hst8.2.2.2.2.1; have k10c := Blk.cell h10c; have f10c := Blk.frozen h10c))
        go_meet
        have hz0 : w0.heap.size ≤ w5.heap.size := Nat.le_trans hB.size hst5.1.gr.size
        have hz1 : w0.heap.size ≤ w7.heap.size := Nat.le_trans hz0 hb7.size
        have F := Act1.set10 (i := 1) (u := .int .i64 M) hgs2 (Act1.set10 (i := 0) (u := .slice A8 k c8) hgs2 hst8)
        exact ⟨rfl, rfl, _, _, A7, k, c7, A8, c8, l.take k, M, F,
          Act1.own10 (Act1.set10 hgs2 hst8) (Act1.own10 hst8 (OwB.call hb8 (Act1.own9 (Act1.set9 hgs2 hst7) (Act1.own9 hst7 (OwB.mono ho7 hz0))))),
          Act1.own10 (Act1.set10 hgs2 hst8) (Act1.own10 hst8 (OwB.mono ho8 (by simpa [size_set] using hz1))), hvM, by omega⟩
      · have gr2 := hst2.1.gr
        have sr2 := hst2.2.2.2.2.2
        go_wp2_with (first
          | (have _t := hst5; (go_at_call 28; refine (HN.out _ _ ?_ ?_ ?_ ?_).mono ?_; (focus (focus (repeat' first | with_reducible assumption | (with_reducible apply gr_refl) | (with_reducible apply gr_drew) | (with_reducible apply gr_drewN) | (with_reducible apply gr_alloc) | (with_reducible apply gr_set) | (with_reducible apply gr_next; with_reducible assumption) | (with_reducible apply gr_call; with_reducible assumption) | omega | (simp; done) | (simp; omega)))); (focus (focus (repeat' first | with_reducible assumption | (with_reducible apply SrcAt.drew) | (with_reducible apply SrcAt.drewN) | (with_reducible apply SrcAt.alloc) | (with_reducible apply SrcAt.set) | (with_reducible apply SrcAt.call; with_reducible assumption) | omega | (simp; omega)))); (focus omega); (focus omega); rintro e w6 ⟨q6, rfl, q6a, q6b, hs6, hg6⟩); have hst6 := hst5.next hgs2 hg6 hs6; clear hg6 hs6)
          | ((go_at_call 28; refine (HN.out _ _ ?_ ?_ ?_ ?_).mono ?_; (focus (focus (repeat' first | with_reducible assumption | (with_reducible apply gr_refl) | (with_reducible apply gr_drew) | (with_reducible apply gr_drewN) | (with_reducible apply gr_alloc) | (with_reducible apply gr_set) | (with_reducible apply gr_next; with_reducible assumption) | (with_reducible apply gr_call; with_reducible assumption) | omega | (simp; done) | (simp; omega)))); (focus (focus (repeat' first | with_reducible assumption | (with_reducible apply SrcAt.drew) | (with_reducible apply SrcAt.drewN) | (with_reducible apply SrcAt.alloc) | (with_reducible apply SrcAt.set) | (with_reducible apply SrcAt.call; with_reducible assumption) | omega | (simp; omega)))); (focus omega); (focus omega); rintro e w5 ⟨q5, rfl, q5a, q5b, hs5, hg5⟩); have hst5 := hst2.next hgs2 hg5 hs5; have gr5 := hst5.1.gr; clear hg5))
        obtain ⟨l', hl', hc1, hc2⟩ := crash_both (A := Aa) (B := Ab) (c := ca) (d := cb) (q5 - 1) q6 hoa.len hv
        have HC1 := Lib.hid hc1
        have HC2 := Lib.hid hc2
        clear hc1 hc2 gr2 sr2 gr5 hs5 hst5 hst2
        have hvn : validB l'.length (l'.length : Int) = true := valid_full (by omega)
        have h3a := hst6.2.1; have h4a := hst6.2.2.1
        go_region_held3 (fun W => W.cell? ⟨w.heap.size, 0, none⟩ = some (.slice Aa nd ca) ∧ W.cell? ⟨w.heap.size, 1, none⟩ = some (.int .i64 s) ∧ W.cell? ⟨w.heap.size + 1, 0, none⟩ = some (.slice Ab nd cb) ∧ W.cell? ⟨w.heap.size + 1, 1, none⟩ = some (.int .i64 s))
          (exact ⟨cellH (cs := #[.slice Aa nd ca, .int .i64 s]) (t := 24) (by (focus (repeat' first | with_reducible assumption | (with_reducible refine heap_drew ?_) | (with_reducible refine heap_drewN ?_) | (with_reducible refine heap_new ?_; focus (first | rfl | omega | (simp; done))) | (with_reducible refine heap_old ?_) | (with_reducible apply heap_near') | ((with_reducible show Array.setIfInBounds _ _ _ = _); rfl) | (with_reducible refine heap_far ?_ ?_; focus (first | omega | (simp; omega) | (simp; done))) | (with_reducible apply heap_grown; with_reducible assumption; (focus (first | omega | (simp; omega)))) | (with_reducible apply heap_call; with_reducible assumption)))) 0, cellH (cs := #[.slice Aa nd ca, .int .i64 s]) (t := 24) (by (focus (repeat' first | with_reducible assumption | (with_reducible refine heap_drew ?_) | (with_reducible refine heap_drewN ?_) | (with_reducible refine heap_new ?_; focus (first | rfl | omega | (simp; done))) | (with_reducible refine heap_old ?_) | (with_reducible apply heap_near') | ((with_reducible show Array.setIfInBounds _ _ _ = _); rfl) | (with_reducible refine heap_far ?_ ?_; focus (first | omega | (simp; omega) | (simp; done))) | (with_reducible apply heap_grown; with_reducible assumption; (focus (first | omega | (simp; omega)))) | (with_reducible apply heap_call; with_reducible assumption)))) 1, cellH (cs := #[.slice Ab nd cb, .int .i64 s]) (t := 24) (by (focus (repeat' first | with_reducible assumption | (with_reducible refine heap_drew ?_) | (with_reducible refine heap_drewN ?_) | (with_reducible refine heap_new ?_; focus (first | rfl | omega | (simp; done))) | (with_reducible refine heap_old ?_) | (with_reducible apply heap_near') | ((with_reducible show Array.setIfInBounds _ _ _ = _); rfl) | (with_reducible refine heap_far ?_ ?_; focus (first | omega | (simp; omega) | (simp; done))) | (with_reducible apply heap_grown; with_reducible assumption; (focus (first | omega | (simp; omega)))) | (with_reducible apply heap_call; with_reducible assumption)))) 0, cellH (cs := #[.slice Ab nd cb, .int .i64 s]) (t := 24) (by (focus (repeat' first | with_reducible assumption | (with_reducible refine heap_drew ?_) | (with_reducible refine heap_drewN ?_) | (with_reducible refine heap_new ?_; focus (first | rfl | omega | (simp; done))) | (with_reducible refine heap_old ?_) | (with_reducible apply heap_near') | ((with_reducible show Array.setIfInBounds _ _ _ = _); rfl) | (with_reducible refine heap_far ?_ ?_; focus (first | omega | (simp; omega) | (simp; done))) | (with_reducible apply heap_grown; with_reducible assumption; (focus (first | omega | (simp; omega)))) | (with_reducible apply heap_call; with_reducible assumption)))) 1⟩)
          (first
            | (go_at_call 14; refine (HC1.out _ (HRA.out _ ?_)).mono ?_; (focus exact gr_drew hst6.1.gr); rintro e w3 ⟨v3, rfl, ⟨A3, n3, c3, rfl, ho3⟩, hb3⟩; (obtain rfl : l'.length = n3 := ho3.len.symm); have hst3 := Act1.call hb3 hst6.drew; clear h3a h4a; have h3b := hst3.2.1; have h4b := hst3.2.2.1)
            | (go_at_call 15; refine (HC2.out _ (HRB.out _ ?_)).mono ?_; (focus exact hst3.1.gr); rintro e w4 ⟨v4, rfl, ⟨A4, n4, c4, rfl, ho4⟩, hb4⟩; (obtain rfl : l'.length = n4 := ho4.len.symm); have hst4 := Act1.call hb4 hst3; clear h3b h4b; have h3c := hst4.2.1; have h4c := hst4.2.2.1; have h9c := hst4.2.2.2.1; have h10c := hst4.2.2.2.2.1; have k3c := Blk.cell h3c; have k4c := Blk.cell h4c; have k9c := Blk.cell h9c; have k10c := Blk.cell h10c; have f9c := Blk.frozen h9c; have f10c := Blk.frozen h10c; clear k3c k4c))
        go_wp2_with fail
        go_meet
        have hz0 : w0.heap.size ≤ w6.heap.size := Nat.le_trans hB.size hst6.1.gr.size
        have hz1 : w0.heap.size ≤ w3.heap.size := Nat.le_trans hz0 (by simpa using hb3.size)
        have F := Act1.sets (a0 := .slice A3 l'.length c3) (a1 := .int .i64 (l'.length : Int)) (b0 := .slice A4 l'.length c4) (b1 := .int .i64 (l'.length : Int)) hgs2 hst4
        exact ⟨rfl, rfl, _, _, A3, l'.length, c3, A4, c4, l', (l'.length : Int), F, Act1.owns hgs2 hst4 (OwB.call hb4 (OwB.mono ho3 (by simpa using hz0))), Act1.owns hgs2 hst4 (OwB.mono ho4 hz1), hvn, by omega⟩
    case rest =>
      obtain ⟨rfl, rfl, hst3⟩ := hcut
      obtain ⟨x3, x4, A3, n3, c3, A4, c4, l3, s3, hs3, ho3, ho4, hv3, hn3⟩ := hst3
      have b9 := hs3.1.b9
      have b10 := hs3.1.b10
      have h9a := hs3.2.2.2.1
      have h10a := hs3.2.2.2.2.1
      have h6a := hs3.1.r6
      have h7a := hs3.1.r7
      have hg3 := hs3.1.gr
      have hsr3 := hs3.2.2.2.2.2
      clear hs3
      have n69 : w.heap.size + 1 + 1 ≠ g9 := by omega
      go_wp2_with fail
      go_region_held3 (fun W => W.cell? ⟨g9, 0, none⟩ = some (.slice A3 n3 c3) ∧ W.cell? ⟨g9, 1, none⟩ = some (.int .i64 s3) ∧ W.cell? ⟨g10, 0, none⟩ = some (.slice A4 n3 c4) ∧ W.cell? ⟨g10, 1, none⟩ = some (.int .i64 s3))
        ((exact ⟨cellH (cs := #[.slice A3 n3 c3, .int .i64 s3]) (t := 24) (by (focus (repeat' first | with_reducible assumption | (with_reducible refine heap_drew ?_) | (with_reducible refine heap_drewN ?_) | (with_reducible refine heap_new ?_; focus (first | rfl | omega | (simp; done))) | (with_reducible refine heap_old ?_) | (with_reducible apply heap_near') | ((with_reducible show Array.setIfInBounds _ _ _ = _); rfl) | (with_reducible refine heap_far ?_ ?_; focus (first | omega | (simp; omega) | (simp; done))) | (with_reducible apply heap_grown; with_reducible assumption; (focus (first | omega | (simp; omega)))) | (with_reducible apply heap_call; with_reducible assumption)))) 0, cellH (cs := #[.slice A3 n3 c3, .int .i64 s3]) (t := 24) (by (focus (repeat' first | with_reducible assumption | (with_reducible refine heap_drew ?_) | (with_reducible refine heap_drewN ?_) | (with_reducible refine heap_new ?_; focus (first | rfl | omega | (simp; done))) | (with_reducible refine heap_old ?_) | (with_reducible apply heap_near') | ((with_reducible show Array.setIfInBounds _ _ _ = _); rfl) | (with_reducible refine heap_far ?_ ?_; focus (first | omega | (simp; omega) | (simp; done))) | (with_reducible apply heap_grown; with_reducible assumption; (focus (first | omega | (simp; omega)))) | (with_reducible apply heap_call; with_reducible assumption)))) 1, cellH (cs := #[.slice A4 n3 c4, .int .i64 s3]) (t := 24) (by (focus (repeat' first | with_reducible assumption | (with_reducible refine heap_drew ?_) | (with_reducible refine heap_drewN ?_) | (with_reducible refine heap_new ?_; focus (first | rfl | omega | (simp; done))) | (with_reducible refine heap_old ?_) | (with_reducible apply heap_near') | ((with_reducible show Array.setIfInBounds _ _ _ = _); rfl) | (with_reducible refine heap_far ?_ ?_; focus (first | omega | (simp; omega) | (simp; done))) | (with_reducible apply heap_grown; with_reducible assumption; (focus (first | omega | (simp; omega)))) | (with_reducible apply heap_call; with_reducible assumption)))) 0, cellH (cs := #[.slice A4 n3 c4, .int .i64 s3]) (t := 24) (by (focus (repeat' first | with_reducible assumption | (with_reducible refine heap_drew ?_) | (with_reducible refine heap_drewN ?_) | (with_reducible refine heap_new ?_; focus (first | rfl | omega | (simp; done))) | (with_reducible refine heap_old ?_) | (with_reducible apply heap_near') | ((with_reducible show Array.setIfInBounds _ _ _ = _); rfl) | (with_reducible refine heap_far ?_ ?_; focus (first | omega | (simp; omega) | (simp; done))) | (with_reducible apply heap_grown; with_reducible assumption; (focus (first | omega | (simp; omega)))) | (with_reducible apply heap_call; with_reducible assumption)))) 1⟩))
        (first
          | (go_at_call 11; refine (samedisk_true A3 n3 c3 A4 n3 c4 l3 s3 _ ?_ ?_).mono ?_; (focus exact (OwB.drew ho3).rd); (focus exact (OwB.drew ho4).rd); rintro e w4 ⟨rfl, hb4⟩)
          | (go_at_call 20; refine (valid_any _ _ _ _ _).mono ?_; rintro e w5 ⟨rfl, hb5⟩; have h6b := heap_call hb5 (heap_call hb4 (heap_drew h6a)); have h7b := heap_call hb5 (heap_call hb4 (heap_drew h7a)); have k6 := Blk.cell h6b; have k7 := Blk.cell h7b; have f6 := Blk.frozen h6b; have f7 := Blk.frozen h7b))
      go_wp2_with fail
      have o1 : ∀ (Ax : Option Addr) (nx cx : Nat) (lx : List UInt8) (a0 a1 b0 b1 : Value), OwB wc w0.heap.size 5 Ax nx cx lx →
          OwB ((((w5.setCell ⟨w.heap.size + 1 + 1, 0, none⟩ a0).setCell ⟨w.heap.size + 1 + 1, 1, none⟩ a1).setCell ⟨w.heap.size + 1 + 1 + 1, 0, none⟩ b0).setCell ⟨w.heap.size + 1 + 1 + 1, 1, none⟩ b1) w0.heap.size 5 Ax nx cx lx := by
        intro Ax nx cx lx a0 a1 b0 b1 ho
        have e5 := OwB.call hb5 (OwB.call hb4 (OwB.drew ho))
        refine OwB.setT (t := 24) (cs := #[b0, .int .i64 0]) (by (focus (repeat' first | with_reducible assumption | (with_reducible refine heap_drew ?_) | (with_reducible refine heap_drewN ?_) | (with_reducible refine heap_new ?_; focus (first | rfl | omega | (simp; done))) | (with_reducible refine heap_old ?_) | (with_reducible apply heap_near') | ((with_reducible show Array.setIfInBounds _ _ _ = _); rfl) | (with_reducible refine heap_far ?_ ?_; focus (first | omega | (simp; omega) | (simp; done))) | (with_reducible apply heap_grown; with_reducible assumption; (focus (first | omega | (simp; omega)))) | (with_reducible apply heap_call; with_reducible assumption)))) (by decide) (OwB.setT (t := 24) (cs := #[.slice none 0 0, .int .i64 0]) (by (focus (repeat' first | with_reducible assumption | (with_reducible refine heap_drew ?_) | (with_reducible refine heap_drewN ?_) | (with_reducible refine heap_new ?_; focus (first | rfl | omega | (simp; done))) | (with_reducible refine heap_old ?_) | (with_reducible apply heap_near') | ((with_reducible show Array.setIfInBounds _ _ _ = _); rfl) | (with_reducible refine heap_far ?_ ?_; focus (first | omega | (simp; omega) | (simp; done))) | (with_reducible apply heap_grown; with_reducible assumption; (focus (first | omega | (simp; omega)))) | (with_reducible apply heap_call; with_reducible assumption)))) (by decide) (OwB.setT (t := 24) (cs := #[a0, .int .i64 0]) (by (focus (repeat' first | with_reducible assumption | (with_reducible refine heap_drew ?_) | (with_reducible refine heap_drewN ?_) | (with_reducible refine heap_new ?_; focus (first | rfl | omega | (simp; done))) | (with_reducible refine heap_old ?_) | (with_reducible apply heap_near') | ((with_reducible show Array.setIfInBounds _ _ _ = _); rfl) | (with_reducible refine heap_far ?_ ?_; focus (first | omega | (simp; omega) | (simp; done))) | (with_reducible apply heap_grown; with_reducible assumption; (focus (first | omega | (simp; omega)))) | (with_reducible apply heap_call; with_reducible assumption)))) (by decide) (OwB.setT (t := 24) (cs := #[.slice none 0 0, .int .i64 0]) h6b (by decide) e5)))
      refine bodyPost_ret (v := .tuple #[.agg #[.slice A3 n3 c3, .int .i64 s3], .agg #[.slice A4 n3 c4, .int .i64 s3], .bool true]) ?_ rfl ⟨A3, c3, A4, c4, n3, l3, s3, rfl, o1 _ _ _ _ _ _ _ _ ho3, o1 _ _ _ _ _ _ _ _ ho4, hv3, hn3, by (focus (repeat' first | with_reducible assumption | (with_reducible apply SrcAt.drew) | (with_reducible apply SrcAt.drewN) | (with_reducible apply SrcAt.alloc) | (with_reducible apply SrcAt.set) | (with_reducible apply SrcAt.call; with_reducible assumption) | omega | (simp; omega))), by (focus (repeat' first | with_reducible assumption | (with_reducible apply gr_refl) | (with_reducible apply gr_drew) | (with_reducible apply gr_drewN) | (with_reducible apply gr_alloc) | (with_reducible apply gr_set) | (with_reducible apply gr_next; with_reducible assumption) | (with_reducible apply gr_call; with_reducible assumption) | omega | (simp; done) | (simp; omega)))⟩
      simp [results, Try.results26, go_sem, k6, k7]

end Go.Proofs.Ytdfmdciopeklhaa
