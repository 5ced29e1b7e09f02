/- Own rows that grow: which block has turned. -/

import Derived.Test.YtobgnncdldfkkaaDoorWords2
namespace Go.Proofs.YtobgnncdldfkkaaDoor
open Go.RowKit
set_option linter.unusedSimpArgs false
set_option linter.unusedVariables false

/-- the own row A was grown into A': only its block, and what is new, has turned -/
structure OwG (base : Nat) (w w' : World) (A A' : Option Addr) : Prop where
  g : w.grownBy w' (A.map (·.block))
  n : A'.map (·.block) = A.map (·.block) ∨ ∃ k, A'.map (·.block) = some k ∧ w.heap.size ≤ k
  b : Below base w w'
theorem OwG.refl (base : Nat) (w : World) (A : Option Addr) : OwG base w w A A := ⟨World.grownBy.refl w _, .inl rfl, Below.refl _ _⟩
theorem OwG.trans {base : Nat} {w w1 w2 : World} {A A1 A2 : Option Addr} (h : OwG base w w1 A A1) (k : OwG base w1 w2 A1 A2) : OwG base w w2 A A2 := by
  refine ⟨h.g.andThen k.g fun j hj => ?_, ?_, h.b.trans k.b⟩
  · rcases h.n with e | ⟨i, e, hi⟩
    · exact .inr (e ▸ hj)
    · rw [e] at hj; injection hj with hj; subst hj; exact .inl hi
  · rcases k.n with e | ⟨i, e, hi⟩
    · rcases h.n with e1 | h1
      · exact .inl (e.trans e1)
      · exact .inr (e ▸ h1)
    · exact .inr ⟨i, e, Nat.le_trans h.g.size hi⟩
theorem OwG.heap {base : Nat} {w w' : World} {A A' : Option Addr} {g : Nat} {x : Obj} (h : OwG base w w' A A') (hne : A.map (·.block) ≠ some g) (hx : w.heap[g]? = some x) : w'.heap[g]? = some x := by
  have hlt : g < w.heap.size := by
    rcases Nat.lt_or_ge g w.heap.size with h1 | h1
    · exact h1
    · rw [Array.getElem?_eq_none h1] at hx; cases hx
  exact (h.g.block g hlt (fun e => hne e.symm)).trans hx
theorem OwG.below {base : Nat} {w w1 w' : World} {A A' : Option Addr} (h : OwG base w w1 A A') (hb : Below w1.heap.size w1 w') (hB : base ≤ w.heap.size) : OwG base w w' A A' :=
  ⟨⟨hb.os.trans h.g.os, hb.tape.trans h.g.tape, hb.output.trans h.g.output, Nat.le_trans h.g.size hb.size, fun i hi hn => (hb.block i (Nat.lt_of_lt_of_le hi h.g.size)).trans (h.g.block i hi hn)⟩, h.n, h.b.trans (hb.mono (Nat.le_trans hB h.g.size))⟩
/-- an own row lies in a block of its own type -/
theorem OwB.block_ne {w : World} {base e g t : Nat} {A : Option Addr} {n c : Nat} {l : List UInt8} {cs : Array Value} (h : OwB w base e A n c l) (hg : w.heap[g]? = some (.cells cs t (0, 0))) (hne : e ≠ t) : A.map (·.block) ≠ some g := by
  rcases h.own.2 with ⟨e1, e2⟩ | ⟨g', cap, cur, hv, hb, hh, hn, hm, hs, hx⟩
  · injection e1 with e1; subst e1; simp
  · injection hv with e1 e3 e4
    subst e1
    intro e5
    have : g' = g := by simpa using e5
    subst this
    rw [hg] at hh
    injection hh with hh
    injection hh with _ h4
    exact hne h4.symm
theorem ownBlock_slice (A : Option Addr) (n c : Nat) : (Value.slice A n c).ownBlock = A.map (·.block) := by
  cases A <;> rfl

section
variable {P : Program} (w : World)
theorem wpList_append_g {ops : Array Oper} {rest : List Oper} {o : Oper} {a : Act} {Q : Exit → Act → World → Prop} (hgd : o.guard = none) (s x : Operand) (t : TypeId)
    (ho : o.op = .call { callee := .builtin .append, args := #[s, x], argTypes := #[t, t] })
    (base : Nat) (e : TypeId) (i : TypeInfo) (ht : P.underlying t = some (.slice e)) (hi : P.info? e = some i) (hz : i.zero = some (.int .u8 0))
    (hsize : i.size = 1) (hby : i.bytes = 1)
    (A : Option Addr) (n c : Nat) (l : List UInt8) (hs : a.eval s = .slice A n c) (hown : OwB w base e A n c l)
    (A2 : Option Addr) (m c2 : Nat) (r : List UInt8) (hx : a.eval x = .slice A2 m c2) (hr : RdB w A2 m c2 r)
    (hbytes : n + m ≤ 140737488355328) (hbase : base ≤ w.heap.size)
    (h : ∀ A' c' w', OwB w' base e A' (n + m) c' (l ++ r) → OwG base w w' A A' →
      wpList P ops Q rest (a.put o.dst (.slice A' (n + m) c')) w') : wpList P ops Q (o :: rest) a w := by
  refine wpList_append_any w hgd s x t ho base e i (.int .u8 0) 1 1 ht hi hz hsize hby rfl (by omega) (.slice A n c) n (bs l) hs hown.own w.heap.size A2 m c2 (bs r) hx hr.reads (bs_one r) (Nat.le_trans hbytes pow47) (by omega) hbase ?_
  intro v' w' h1 h2 h4
  rw [← bs_append] at h1
  obtain ⟨A', c', rfl, h3⟩ := OwB.of_own h1
  rw [ownBlock_slice] at h2 h4
  rw [ownBlock_slice] at h4
  refine h A' c' w' h3 ⟨h2, h4.imp id fun h5 => ⟨_, h5, Nat.le_refl _⟩, ?_⟩
  exact (Below.refl _ _).grown h2 hbase (fun k hk => by
    rw [← ownBlock_slice A n c] at hk
    exact (hown.own.lt k hk).1)
theorem step_append_g {ops : Array Oper} {o : Oper} {a : Act} {K : Act → World → Prop} {Q : Exit → Act → World → Prop} {E : Prop} (hgd : o.guard = none) (s x : Operand) (t : TypeId)
    (ho : o.op = .call { callee := .builtin .append, args := #[s, x], argTypes := #[t, t] })
    (base : Nat) (e : TypeId) (i : TypeInfo) (ht : P.underlying t = some (.slice e)) (hi : P.info? e = some i) (hz : i.zero = some (.int .u8 0))
    (hsize : i.size = 1) (hby : i.bytes = 1)
    (A : Option Addr) (n c : Nat) (l : List UInt8) (hs : a.eval s = .slice A n c) (hown : OwB w base e A n c l)
    (A2 : Option Addr) (m c2 : Nat) (r : List UInt8) (hx : a.eval x = .slice A2 m c2) (hr : RdB w A2 m c2 r)
    (hbytes : n + m ≤ 140737488355328) (hbase : base ≤ w.heap.size)
    (h : ∀ A' c' w', OwB w' base e A' (n + m) c' (l ++ r) → OwG base w w' A A' →
      K (a.put o.dst (.slice A' (n + m) c')) w') :
    if Region.wanted o (yielded ops a.tmps) = true then Oper.wp P o a w K Q else E := by
  refine step_append_any w hgd s x t ho base e i (.int .u8 0) 1 1 ht hi hz hsize hby rfl (by omega) (.slice A n c) n (bs l) hs hown.own w.heap.size A2 m c2 (bs r) hx hr.reads (bs_one r) (Nat.le_trans hbytes pow47) (by omega) hbase ?_
  intro v' w' h1 h2 h4
  rw [← bs_append] at h1
  obtain ⟨A', c', rfl, h3⟩ := OwB.of_own h1
  rw [ownBlock_slice] at h2 h4
  rw [ownBlock_slice] at h4
  refine h A' c' w' h3 ⟨h2, h4.imp id fun h5 => ⟨_, h5, Nat.le_refl _⟩, ?_⟩
  exact (Below.refl _ _).grown h2 hbase (fun k hk => by
    rw [← ownBlock_slice A n c] at hk
    exact (hown.own.lt k hk).1)

theorem wpList_append_n {ops : Array Oper} {rest : List Oper} {o : Oper} {a : Act} {Q : Exit → Act → World → Prop} (hgd : o.guard = none) (s x : Operand) (t : TypeId)
    (ho : o.op = .call { callee := .builtin .append, args := #[s, x], argTypes := #[t, t] })
    (base : Nat) (e : TypeId) (i : TypeInfo) (ht : P.underlying t = some (.slice e)) (hi : P.info? e = some i) (hz : i.zero = some (.int .u8 0))
    (hsize : i.size = 1) (hby : i.bytes = 1) (hs : a.eval s = .slice none 0 0)
    (A2 : Option Addr) (m c2 : Nat) (r : List UInt8) (hx : a.eval x = .slice A2 m c2) (hr : RdB w A2 m c2 r)
    (hbytes : m ≤ 140737488355328) (hbase : base ≤ w.heap.size)
    (h : ∀ A' c' w', OwB w' base e A' m c' r → OwG base w w' none A' →
      wpList P ops Q rest (a.put o.dst (.slice A' m c')) w') : wpList P ops Q (o :: rest) a w :=
  wpList_append_g w hgd s x t ho base e i ht hi hz hsize hby none 0 0 [] hs (OwB.nil _ _ _) A2 m c2 r hx hr (by omega) hbase (fun A' c' w' h1 h2 => by
    rw [Nat.zero_add] at h1 ⊢; rw [List.nil_append] at h1; exact h A' c' w' h1 h2)
theorem step_append_n {ops : Array Oper} {o : Oper} {a : Act} {K : Act → World → Prop} {Q : Exit → Act → World → Prop} {E : Prop} (hgd : o.guard = none) (s x : Operand) (t : TypeId)
    (ho : o.op = .call { callee := .builtin .append, args := #[s, x], argTypes := #[t, t] })
    (base : Nat) (e : TypeId) (i : TypeInfo) (ht : P.underlying t = some (.slice e)) (hi : P.info? e = some i) (hz : i.zero = some (.int .u8 0))
    (hsize : i.size = 1) (hby : i.bytes = 1) (hs : a.eval s = .slice none 0 0)
    (A2 : Option Addr) (m c2 : Nat) (r : List UInt8) (hx : a.eval x = .slice A2 m c2) (hr : RdB w A2 m c2 r)
    (hbytes : m ≤ 140737488355328) (hbase : base ≤ w.heap.size)
    (h : ∀ A' c' w', OwB w' base e A' m c' r → OwG base w w' none A' →
      K (a.put o.dst (.slice A' m c')) w') :
    if Region.wanted o (yielded ops a.tmps) = true then Oper.wp P o a w K Q else E :=
  step_append_g w hgd s x t ho base e i ht hi hz hsize hby none 0 0 [] hs (OwB.nil _ _ _) A2 m c2 r hx hr (by omega) hbase (fun A' c' w' h1 h2 => by
    rw [Nat.zero_add] at h1 ⊢; rw [List.nil_append] at h1; exact h A' c' w' h1 h2)
end
/-- a part of a slice that came in: its run, and what it reads as -/
theorem RdB.cut {P : Program} {t : TypeId} {w : World} {A : Option Addr} {n c : Nat} {l : List UInt8} (h : RdB w A n c l) (ht : P.underlying t = some (.slice (P.elem t))) (hz : ∀ W : World, (sizeOf (P.elem t)).run P W = .ok 1 W)
    (LO HI : Int) (lo ln : Nat) (hlo : LO = lo) (hhi : HI = ((lo + ln : Nat) : Int)) (h2 : lo + ln ≤ n) :
    ∃ A', (∀ W : World, (Instr.slice t (.slice A n c) (some (.int .i64 LO)) (some (.int .i64 HI)) none).run P W = .ok (.slice A' ln (c - lo)) W) ∧ RdB w A' ln (c - lo) ((l.drop lo).take ln) := by
  subst hlo hhi
  have hcap := h.cap
  have hln := h.len
  have hd : lo + ln - lo = ln := by omega
  refine ⟨if c = lo then A else A.map (·.add lo), fun W => ?_, ?_⟩
  · rw [run_slice_lh W t A n c ht .i64 .i64 lo _ (by omega) (by omega) (by omega)]
    simp [hz, Result.andThen, sliced]
    omega
  · refine ⟨by rw [List.length_take, List.length_drop]; omega, by omega, by have := h.max; omega, ?_⟩
    have hc := Reads.cut h.reads (k := lo) (cap := c) (by omega) hcap
    rw [Nat.mul_one] at hc
    refine ⟨by rw [length_bs, List.length_take, List.length_drop]; omega, fun h0 => ?_⟩
    obtain ⟨ad, e, hb, hcell⟩ := hc.2 (by omega)
    refine ⟨ad, e, hb, fun j u hu => hcell j u ?_⟩
    rw [bs_take, List.getElem?_take, bs_drop] at hu
    split at hu
    · exact hu
    · cases hu
theorem RdB.cutL {P : Program} {t : TypeId} {w : World} {A : Option Addr} {n c : Nat} {l : List UInt8} (h : RdB w A n c l) (ht : P.underlying t = some (.slice (P.elem t))) (hz : ∀ W : World, (sizeOf (P.elem t)).run P W = .ok 1 W)
    (LO : Int) (lo : Nat) (hlo : LO = lo) (h2 : lo ≤ n) :
    ∃ A', (∀ W : World, (Instr.slice t (.slice A n c) (some (.int .i64 LO)) none none).run P W = .ok (.slice A' (n - lo) (c - lo)) W) ∧ RdB w A' (n - lo) (c - lo) (l.drop lo) := by
  subst hlo
  have hcap := h.cap
  have hln := h.len
  refine ⟨if c = lo then A else A.map (·.add lo), fun W => ?_, ?_⟩
  · rw [run_slice_l W t A n c ht .i64 lo (by omega) (by omega)]
    simp [hz, Result.andThen, sliced]
  · refine ⟨by rw [List.length_drop]; omega, by omega, by have := h.max; omega, ?_⟩
    have hc := Reads.cut h.reads (k := lo) (cap := c) (by omega) hcap
    rw [Nat.mul_one] at hc
    rw [bs_drop]
    exact hc
theorem OwG.drew_left {base : Nat} {w w' : World} {A A' : Option Addr} (h : OwG base w.drew w' A A') : OwG base w w' A A' := ⟨⟨h.g.os, h.g.tape, h.g.output, h.g.size, h.g.block⟩, h.n, ⟨h.b.os, h.b.tape, h.b.output, h.b.size, h.b.block⟩⟩
theorem OwG.new {base : Nat} {w w' : World} {A' : Option Addr} (h : OwG base w w' none A') : Below w.heap.size w w' := ⟨h.g.os, h.g.tape, h.g.output, h.g.size, fun k hk => h.g.block k hk (by simp)⟩
theorem bel_owg {B base : Nat} {a w w1 : World} {A A1 : Option Addr} (hg : OwG base w w1 A A1) (hB : B ≤ base) (h : Bel B a w) : Bel B a w1 := ⟨h.1, h.2.trans (hg.b.mono hB)⟩
theorem low8_wrap (z : Int) : IntKind.u8.wrap z = ((low8 z).toNat : Int) := by rw [low8_toNat, IntKind.wrap_u8']
theorem OwG.alloc_left {base : Nat} {w w' : World} {o : Obj} {A A' : Option Addr} (h : OwG base (w.alloc o) w' A A') (hB : base ≤ w.heap.size) : OwG base w w' A A' := by
  have h0 := World.grownBy_alloc w o (A.map (·.block))
  refine ⟨h0.trans h.g, h.n.imp id ?_, ((Below.refl _ _).alloc hB o).trans h.b⟩
  rintro ⟨k, e, hk⟩
  exact ⟨k, e, by simp at hk; omega⟩
theorem toList_madeCells1 (z : Value) (n : Nat) : (madeCells #[z] n).toList = List.replicate n z := by
  apply List.ext_getElem?
  intro i
  by_cases h : i < n
  · simp [madeCells, List.getElem?_replicate, h, Nat.mod_one]
  · simp [madeCells, List.getElem?_replicate, h]
theorem OwB.zeros {w : World} {base e n : Nat} (hb : base ≤ w.heap.size) (hn : n ≤ maxLen) : OwB (w.alloc (.cells (madeCells #[.int .u8 0] n) e)) base e (some ⟨w.heap.size, 0, none⟩) n n (List.replicate n 0) := by
  refine ⟨by simp, Nat.le_refl _, hn, by simp [bs], .inr ⟨w.heap.size, n, _, rfl, hb, heap_alloc_new w _, Nat.le_refl _, hn, by rw [size_madeCells]; omega, ?_⟩⟩
  rw [Nat.mul_one, toList_madeCells1, List.take_of_length_le (by simp)]
  simp [bs]
theorem run_make_u8 {P : Program} {t e : TypeId} {i : TypeInfo} (ht : P.underlying t = some (.slice e)) (hi : P.info? e = some i) (hz : i.zero = some (.int .u8 0)) (hs : i.size = 1) (hy : i.bytes = 1) (n : Nat) (hn : n ≤ 140737488355328) (w : World) :
    (Instr.makeSlice t (.int .i64 (n : Int)) (.int .i64 (n : Int))).run P w = .ok (.slice (some ⟨w.heap.size, 0, none⟩) n n) (w.alloc (.cells (madeCells #[.int .u8 0] n) e)) := by
  have h := run_make (P := P) w t e i (.int .u8 0) ht hi hz .i64 .i64 n n (by omega) (by omega) (by rw [hy]; omega) (by omega)
  simp only [Int.toNat_natCast, hs, Nat.mul_one] at h
  exact h

end Go.Proofs.YtobgnncdldfkkaaDoor
