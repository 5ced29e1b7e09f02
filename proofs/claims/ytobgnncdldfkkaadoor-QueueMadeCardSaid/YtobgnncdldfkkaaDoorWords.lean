/-
  Words for memory, used by the walks of this seat: a slice that reads as a list, a block known whole, append onto a row of the call's own.
  Sections 1 to 3 are the guide's own plain theorems (extra-words), copied as the guide tells; the rest is typed for this work.
-/
import Derived.Below
import Derived.Laws.OwnMore
import Derived.Deep.AppendLies
import Derived.Deep.Draws
import Derived.Laws.Rows
import Derived.Maps.AppendAt
import Derived.RegionTactic
import Derived.OwnWalk
import Derived.WalkKit
import Derived.WalkSpells
import Derived.WalkLawsBesides
import Derived.Lib.Hide
namespace Go.Proofs.YtobgnncdldfkkaaDoor
open Go.RowKit

/-! ### a slice that reads as a list -/
theorem block_of_add (a : Addr) (n : Nat) : (a.add n).block = a.block := by unfold Addr.add; split <;> rfl
theorem add_of_add (a : Addr) (i j : Nat) : (a.add i).add j = a.add (i + j) := by
  unfold Addr.add
  by_cases hi : i = 0 <;> by_cases hj : j = 0 <;> simp [hi, hj, Nat.add_assoc]

def Reads (w : World) (B size : Nat) (A : Option Addr) (n : Nat) (xs : List Value) : Prop :=
  xs.length = n * size ∧ (0 < n → ∃ ad, A = some ad ∧ ad.block < B ∧ ∀ j u, xs[j]? = some u → w.cell? (ad.add j) = some u)

section
variable {w w' : World} {B B' size n : Nat} {A : Option Addr} {xs : List Value}
theorem Reads.none_ : Reads w B size A 0 [] := ⟨by simp, fun h => absurd h (by omega)⟩
theorem Reads.at_ {k : Nat} (h : Reads w B 1 A n xs) (hk : k < n) : ∃ ad u, A = some ad ∧ ad.block < B ∧ xs[k]? = some u ∧ w.cell? (ad.add k) = some u := by
  obtain ⟨ad, e, hb, hc⟩ := h.2 (by omega)
  have hl : k < xs.length := by have := h.1; omega
  exact ⟨ad, xs[k], e, hb, List.getElem?_eq_getElem hl, hc k _ (List.getElem?_eq_getElem hl)⟩
theorem Reads.keep (h : Reads w B size A n xs) (hk : ∀ p : Addr, p.block < B → w'.cell? p = w.cell? p) : Reads w' B size A n xs :=
  ⟨h.1, fun hn => by
    obtain ⟨ad, e, hb, hc⟩ := h.2 hn
    exact ⟨ad, e, hb, fun j u hu => (hk _ (by rw [block_of_add]; exact hb)).trans (hc j u hu)⟩⟩
theorem Reads.more (h : Reads w B size A n xs) (hB : B ≤ B') : Reads w B' size A n xs :=
  ⟨h.1, fun hn => by
    obtain ⟨ad, e, hb, hc⟩ := h.2 hn
    exact ⟨ad, e, by omega, hc⟩⟩
theorem Reads.below (h : Reads w B size A n xs) (hb : Below B w w') : Reads w' B size A n xs := h.keep fun _ hp => hb.cell hp
theorem Reads.drew (h : Reads w B size A n xs) : Reads w.drew B size A n xs := h
theorem Reads.drewN (h : Reads w B size A n xs) (k : Nat) : Reads (w.drewN k) B size A n xs := h
theorem Reads.alloc (h : Reads w B size A n xs) (hB : B ≤ w.heap.size) (o : Obj) : Reads (w.alloc o) B size A n xs := h.keep fun p hp => World.cell?_alloc_lt w o p (by omega)
theorem Reads.setCell (h : Reads w B size A n xs) {p : Addr} (hB : B ≤ p.block) (u : Value) : Reads (w.setCell p u) B size A n xs :=
  h.keep fun q hq => World.cell?_setCell_other w p q u (fun e => by subst e; omega)
theorem Reads.grown (h : Reads w B size A n xs) {row : Option Nat} (hg : w.grownBy w' row) (hB : B ≤ w.heap.size) (hr : ∀ g, row = some g → B ≤ g) : Reads w' B size A n xs :=
  h.keep fun p hp => World.cell?_of_block (hg.block p.block (by omega) (fun e => by have := hr _ e.symm; omega))
theorem Reads.cut (h : Reads w B size A n xs) {k cap : Nat} (hk : k ≤ n) (hc : n ≤ cap) :
    Reads w B size (if cap = k then A else A.map (·.add (k * size))) (n - k) (xs.drop (k * size)) := by
  refine ⟨by rw [List.length_drop, h.1, Nat.sub_mul], fun hn => ?_⟩
  obtain ⟨ad, rfl, hb, hcell⟩ := h.2 (by omega)
  rw [if_neg (by omega)]
  refine ⟨ad.add (k * size), rfl, by rw [block_of_add]; exact hb, fun j u hu => ?_⟩
  rw [add_of_add]
  exact hcell _ u (by rw [← hu, List.getElem?_drop])
theorem Reads.of_own {base : Nat} {e : TypeId} {c : Nat} (h : w.ownsRow base e size (.slice A n c) n xs) : Reads w w.heap.size size A n xs := by
  refine ⟨h.1, fun hn => ?_⟩
  obtain ⟨g, cap, hv, _, hlt⟩ := h.form hn
  have hA : A = some ⟨g, 0, none⟩ := by injection hv
  subst hA
  exact ⟨_, rfl, hlt, h.cells (g := g) rfl⟩
end

/-! ### a block that is known whole -/
def Blk (w : World) (g : Nat) (t : TypeId) (cs : Array Value) : Prop := w.heap[g]? = some (.cells cs t (0, 0))

section
variable {w w' : World} {g : Nat} {t : TypeId} {cs : Array Value}
theorem Blk.lt (h : Blk w g t cs) : g < w.heap.size := by
  rcases Nat.lt_or_ge g w.heap.size with hlt | hge
  · exact hlt
  · unfold Blk at h; rw [Array.getElem?_eq_none hge] at h; cases h
theorem Blk.cell (h : Blk w g t cs) (i : Nat) : w.cell? ⟨g, i, none⟩ = cs[i]? := cell_of_row w g i cs t (0, 0) h
theorem Blk.frozen (h : Blk w g t cs) (i : Nat) : w.frozen? ⟨g, i, none⟩ = false := by
  unfold Blk at h
  simp [World.frozen?, h]
theorem Blk.new (w : World) (t : TypeId) (cs : Array Value) : Blk (w.alloc (.cells cs t)) w.heap.size t cs := heap_alloc_new w _
theorem Blk.drew (h : Blk w g t cs) : Blk w.drew g t cs := h
theorem Blk.drewN (h : Blk w g t cs) (n : Nat) : Blk (w.drewN n) g t cs := h
theorem Blk.alloc (h : Blk w g t cs) (o : Obj) : Blk (w.alloc o) g t cs := (Below.heap_alloc w o g h.lt).trans h
theorem Blk.set_ (h : Blk w g t cs) (i : Nat) (u : Value) : Blk (w.setCell ⟨g, i, none⟩ u) g t (cs.setIfInBounds i u) := by
  unfold Blk at h ⊢
  simp [World.setCell, Array.getElem?_modify, h]
theorem Blk.far (h : Blk w g t cs) {p : Addr} (hp : g ≠ p.block) (u : Value) : Blk (w.setCell p u) g t cs := (Below.heap_setCell w p u g hp).trans h
theorem Blk.below {B : Nat} (h : Blk w g t cs) (hb : Below B w w') (hg : g < B) : Blk w' g t cs := (hb.block g hg).trans h
theorem Blk.grown {row : Option Nat} (h : Blk w g t cs) (hb : w.grownBy w' row) (hg : some g ≠ row) : Blk w' g t cs := (hb.block g h.lt hg).trans h
theorem Blk.ne_ {g' : Nat} {t' : TypeId} {cs' : Array Value} (h : Blk w g t cs) (h' : Blk w g' t' cs') (hne : t ≠ t') : g ≠ g' := by
  rintro rfl
  unfold Blk at h h'
  rw [h] at h'
  injection h' with h'
  injection h' with _ ht
  exact hne ht
theorem own_blk_ne {base : Nat} {e : TypeId} {size n : Nat} {v : Value} {xs : List Value} (h : w.ownsRow base e size v n xs) (hg : Blk w g t cs) (hne : e ≠ t) : v.ownBlock ≠ some g := by
  rcases h.2 with ⟨rfl, _⟩ | ⟨g', cap, cur, rfl, _, hh, _⟩
  · simp [Value.ownBlock]
  · intro he
    have : g' = g := by simpa [Value.ownBlock] using he
    subst this
    exact Blk.ne_ (t := e) hh hg hne rfl
end

/-! ### append onto a row of the call's own -/
section
variable {P : Program} (w : World)

theorem run_append_of_nil (base : Nat) (t ty e : TypeId) (i : TypeInfo) (size : Nat) (ht : P.underlying t = some (.slice e)) (hi : P.info? e = some i)
    (v : Value) (n : Nat) (xs : List Value) (hown : w.ownsRow base e size v n xs) (c : Nat) : (Builtin.append_ #[t, t] ty #[v, .slice none 0 c]).run P w = .ok v w := by
  rcases hown.2 with ⟨rfl, rfl⟩ | ⟨g, cap, cur, rfl, _, _, hnc, _⟩
  · simp [Builtin.append_, run_underlying ht, sizeOf, typeInfo, hi, Builtin.lenOf, Builtin.firstCells]
  · simp [Builtin.append_, run_underlying ht, sizeOf, typeInfo, hi, Builtin.lenOf, Builtin.firstCells, hnc, storeCells]

theorem run_append_any (base : Nat) (t ty e : TypeId) (i : TypeInfo) (z : Value) (size bytes : Nat) (ht : P.underlying t = some (.slice e)) (hi : P.info? e = some i) (hz : i.zero = some z)
    (hsize : i.size = size) (hby : i.bytes = bytes) (hzs : z.cells.size = size) (hsz : 0 < size)
    (v : Value) (n : Nat) (xs : List Value) (hown : w.ownsRow base e size v n xs)
    (B : Nat) (A : Option Addr) (m c : Nat) (news : List Value) (hr : Reads w B size A m news) (h1 : ∀ u ∈ news, u.oneCell' = true)
    (h63 : n + m ≤ maxLen) (hbytes : (n + m) * bytes ≤ 140737488355328) (hbase : base ≤ w.heap.size) :
    ∃ v' w', (Builtin.append_ #[t, t] ty #[v, .slice A m c]).run P w = .ok v' w' ∧ w'.ownsRow base e size v' (n + m) (xs ++ news) ∧ w.grownBy w' v.ownBlock ∧
      (v'.ownBlock = v.ownBlock ∨ v'.ownBlock = some w.heap.size) := by
  rcases A with _ | ad
  · have hm : m = 0 := by
      rcases Nat.eq_zero_or_pos m with h0 | h0
      · exact h0
      · obtain ⟨ad, h, _⟩ := hr.2 h0
        cases h
    subst hm
    have hn : news = [] := List.eq_nil_of_length_eq_zero (by simpa using hr.1)
    subst hn
    exact ⟨v, w, run_append_of_nil w base t ty e i size ht hi v n xs hown c, by simpa using hown, World.grownBy.refl w _, .inl rfl⟩
  · have hcells : ∀ j u, news[j]? = some u → w.cell? (ad.add j) = some u := by
      intro j u hu
      rcases Nat.eq_zero_or_pos m with h0 | h0
      · subst h0
        have hn : news = [] := List.eq_nil_of_length_eq_zero (by simpa using hr.1)
        subst hn
        simp at hu
      · obtain ⟨ad', h, _, hc⟩ := hr.2 h0
        injection h with h
        subst h
        exact hc j u hu
    obtain ⟨v', w', hrun, h2, h3, _, h5⟩ := run_append_own_at (P := P) w base t ty e i z size bytes ht hi hz hsize hby hzs hsz v n xs hown ad m c news hr.1 hcells h1 h63 hbytes hbase
    exact ⟨v', w', hrun, h2, h3, h5⟩

theorem wp_append_any {o : Oper} {a : Act} {K : Act → World → Prop} {Q : Exit → Act → World → Prop} (s x : Operand) (t : TypeId)
    (ho : o.op = .call { callee := .builtin .append, args := #[s, x], argTypes := #[t, t] })
    (base : Nat) (e : TypeId) (i : TypeInfo) (z : Value) (size bytes : Nat) (ht : P.underlying t = some (.slice e)) (hi : P.info? e = some i) (hz : i.zero = some z)
    (hsize : i.size = size) (hby : i.bytes = bytes) (hzs : z.cells.size = size) (hsz : 0 < size)
    (v : Value) (n : Nat) (xs : List Value) (hs : a.eval s = v) (hown : w.ownsRow base e size v n xs)
    (B : Nat) (A : Option Addr) (m c : Nat) (news : List Value) (hx : a.eval x = .slice A m c) (hr : Reads w B size A m news) (h1 : ∀ u ∈ news, u.oneCell' = true)
    (h63 : n + m ≤ maxLen) (hbytes : (n + m) * bytes ≤ 140737488355328) (hbase : base ≤ w.heap.size)
    (h : ∀ v' w', w'.ownsRow base e size v' (n + m) (xs ++ news) → w.grownBy w' v.ownBlock → (v'.ownBlock = v.ownBlock ∨ v'.ownBlock = some w.heap.size) → K (a.put o.dst v') w') : o.wp P a w K Q := by
  obtain ⟨v', w', hrun, h2, h3, h4⟩ := run_append_any (P := P) w base t o.type e i z size bytes ht hi hz hsize hby hzs hsz v n xs hown B A m c news hr h1 h63 hbytes hbase
  unfold Oper.wp execOp
  simp only [ho, resolve, invoke, builtin, Sem.run_bind, Sem.run_pure, Result.andThen_ok, List.map_toArray, List.map_cons, List.map_nil, hs, hx, hrun]
  exact h v' w' h2 h3 h4

theorem wpList_append_any {ops : Array Oper} {rest : List Oper} {o : Oper} {a : Act} {Q : Exit → Act → World → Prop} (hgd : o.guard = none) (s x : Operand) (t : TypeId)
    (ho : o.op = .call { callee := .builtin .append, args := #[s, x], argTypes := #[t, t] })
    (base : Nat) (e : TypeId) (i : TypeInfo) (z : Value) (size bytes : Nat) (ht : P.underlying t = some (.slice e)) (hi : P.info? e = some i) (hz : i.zero = some z)
    (hsize : i.size = size) (hby : i.bytes = bytes) (hzs : z.cells.size = size) (hsz : 0 < size)
    (v : Value) (n : Nat) (xs : List Value) (hs : a.eval s = v) (hown : w.ownsRow base e size v n xs)
    (B : Nat) (A : Option Addr) (m c : Nat) (news : List Value) (hx : a.eval x = .slice A m c) (hr : Reads w B size A m news) (h1 : ∀ u ∈ news, u.oneCell' = true)
    (h63 : n + m ≤ maxLen) (hbytes : (n + m) * bytes ≤ 140737488355328) (hbase : base ≤ w.heap.size)
    (h : ∀ v' w', w'.ownsRow base e size v' (n + m) (xs ++ news) → w.grownBy w' v.ownBlock → (v'.ownBlock = v.ownBlock ∨ v'.ownBlock = some w.heap.size) → wpList P ops Q rest (a.put o.dst v') w') : wpList P ops Q (o :: rest) a w :=
  wpList_plain hgd fun _ hK => wp_append_any w s x t ho base e i z size bytes ht hi hz hsize hby hzs hsz v n xs hs hown B A m c news hx hr h1 h63 hbytes hbase fun v' w' h2 h3 h4 => hK _ _ (h v' w' h2 h3 h4)

theorem step_append_any {ops : Array Oper} {o : Oper} {a : Act} {K : Act → World → Prop} {Q : Exit → Act → World → Prop} {E : Prop} (hgd : o.guard = none) (s x : Operand) (t : TypeId)
    (ho : o.op = .call { callee := .builtin .append, args := #[s, x], argTypes := #[t, t] })
    (base : Nat) (e : TypeId) (i : TypeInfo) (z : Value) (size bytes : Nat) (ht : P.underlying t = some (.slice e)) (hi : P.info? e = some i) (hz : i.zero = some z)
    (hsize : i.size = size) (hby : i.bytes = bytes) (hzs : z.cells.size = size) (hsz : 0 < size)
    (v : Value) (n : Nat) (xs : List Value) (hs : a.eval s = v) (hown : w.ownsRow base e size v n xs)
    (B : Nat) (A : Option Addr) (m c : Nat) (news : List Value) (hx : a.eval x = .slice A m c) (hr : Reads w B size A m news) (h1 : ∀ u ∈ news, u.oneCell' = true)
    (h63 : n + m ≤ maxLen) (hbytes : (n + m) * bytes ≤ 140737488355328) (hbase : base ≤ w.heap.size)
    (h : ∀ v' w', w'.ownsRow base e size v' (n + m) (xs ++ news) → w.grownBy w' v.ownBlock → (v'.ownBlock = v.ownBlock ∨ v'.ownBlock = some w.heap.size) → K (a.put o.dst v') w') :
    if Region.wanted o (yielded ops a.tmps) = true then Oper.wp P o a w K Q else E := by
  have hw : Region.wanted o (yielded ops a.tmps) = true := by simp [Region.wanted, hgd]
  rw [if_pos hw]
  exact wp_append_any w s x t ho base e i z size bytes ht hi hz hsize hby hzs hsz v n xs hs hown B A m c news hx hr h1 h63 hbytes hbase h
end

/-! ### bytes -/
/-- bytes as cells -/
def bs (l : List UInt8) : List Value := l.map fun b => .int .u8 (b.toNat : Int)
theorem length_bs (l : List UInt8) : (bs l).length = l.length := by simp [bs]
theorem bs_one (l : List UInt8) : ∀ u ∈ bs l, u.oneCell' = true := by
  intro u hu
  simp only [bs, List.mem_map] at hu
  obtain ⟨b, _, rfl⟩ := hu
  rfl
theorem bs_append (l r : List UInt8) : bs (l ++ r) = bs l ++ bs r := by simp [bs]
theorem bs_take (l : List UInt8) (k : Nat) : bs (l.take k) = (bs l).take k := by simp [bs, List.map_take]
theorem bs_drop (l : List UInt8) (k : Nat) : bs (l.drop k) = (bs l).drop k := by simp [bs, List.map_drop]

/-- the slice (A, n, c) reads as the bytes l -/
structure RdB (w : World) (A : Option Addr) (n c : Nat) (l : List UInt8) : Prop where
  len : n = l.length
  cap : n ≤ c
  max : c ≤ maxLen
  reads : Reads w w.heap.size 1 A n (bs l)

/-- the slice (A, n, c) is the call's own and reads as the bytes l -/
structure OwB (w : World) (base e : Nat) (A : Option Addr) (n c : Nat) (l : List UInt8) : Prop where
  len : n = l.length
  cap : n ≤ c
  max : c ≤ maxLen
  own : w.ownsRow base e 1 (.slice A n c) n (bs l)

/-- a call that only makes new memory and returns v with P -/
def Ret (w : World) (P : Value → World → Prop) (e : Ending) (w' : World) : Prop := ∃ v, e = .returned v ∧ P v w' ∧ Below w.heap.size w w'

theorem RdB.below {w w' : World} {A : Option Addr} {n c : Nat} {l : List UInt8} (h : RdB w A n c l) (hb : Below w.heap.size w w') : RdB w' A n c l :=
  ⟨h.len, h.cap, h.max, (h.reads.below hb).more hb.size⟩
theorem RdB.nil (w : World) : RdB w none 0 0 [] := ⟨rfl, Nat.le_refl _, by unfold maxLen; omega, Reads.none_⟩
theorem OwB.nil (w : World) (base e : Nat) : OwB w base e none 0 0 [] := ⟨rfl, Nat.le_refl _, by unfold maxLen; omega, World.ownsRow_nil w base e 1⟩
theorem OwB.rd {w : World} {base e : Nat} {A : Option Addr} {n c : Nat} {l : List UInt8} (h : OwB w base e A n c l) : RdB w A n c l :=
  ⟨h.len, h.cap, h.max, Reads.of_own h.own⟩

theorem bcell {W w1 : World} (hb : Below W.heap.size W w1) : (∀ b o, b < W.heap.size → w1.cell? ⟨b, o, none⟩ = W.cell? ⟨b, o, none⟩) ∧ (∀ b o, b < W.heap.size → w1.frozen? ⟨b, o, none⟩ = W.frozen? ⟨b, o, none⟩) :=
  ⟨fun b o h => hb.cell (p := ⟨b, o, none⟩) h, fun b o h => hb.frozen (p := ⟨b, o, none⟩) h⟩
theorem ret_val {a b : Value} (h : a = b) : Ending.returned a = .returned b := by rw [h]
theorem ret_bool {a b : Bool} (h : a = b) : Ending.returned (.bool a) = .returned (.bool b) := by rw [h]
theorem ret_int {k : IntKind} {a b : Int} (h : a = b) : Ending.returned (.int k a) = .returned (.int k b) := by rw [h]

theorem own_shape {w : World} {base e size n : Nat} {v : Value} {xs : List Value} (h : w.ownsRow base e size v n xs) : ∃ A c, v = .slice A n c ∧ n ≤ c ∧ c ≤ maxLen := by
  rcases h.2 with ⟨rfl, rfl⟩ | ⟨g, cap, cur, rfl, _, _, hc, hm, _⟩
  · exact ⟨none, 0, rfl, Nat.le_refl _, by unfold maxLen; omega⟩
  · exact ⟨_, cap, rfl, hc, hm⟩

theorem pow47 : (140737488355328 : Nat) ≤ maxLen := by unfold maxLen; omega

theorem OwB.of_own {w : World} {base e n : Nat} {v : Value} {l : List UInt8} (h : w.ownsRow base e 1 v n (bs l)) : ∃ A c, v = .slice A n c ∧ OwB w base e A n c l := by
  obtain ⟨A, c, rfl, h1, h2⟩ := own_shape h
  exact ⟨A, c, rfl, ⟨by have := h.1; rw [length_bs] at this; omega, h1, h2, h⟩⟩

section
variable {P : Program} (w : World)
theorem wpList_append_b {ops : Array Oper} {rest : List Oper} {o : Oper} {a : Act} {Q : Exit → Act → World → Prop} (hgd : o.guard = none) (s x : Operand) (t : TypeId)
    (ho : o.op = .call { callee := .builtin .append, args := #[s, x], argTypes := #[t, t] })
    (base : Nat) (e : TypeId) (i : TypeInfo) (ht : P.underlying t = some (.slice e)) (hi : P.info? e = some i) (hz : i.zero = some (.int .u8 0))
    (hsize : i.size = 1) (hby : i.bytes = 1)
    (A : Option Addr) (n c : Nat) (l : List UInt8) (hs : a.eval s = .slice A n c) (hown : OwB w base e A n c l)
    (A2 : Option Addr) (m c2 : Nat) (r : List UInt8) (hx : a.eval x = .slice A2 m c2) (hr : RdB w A2 m c2 r)
    (hbytes : n + m ≤ 140737488355328) (hbase : base ≤ w.heap.size)
    (h : ∀ A' c' w', OwB w' base e A' (n + m) c' (l ++ r) → w.grownBy w' (Value.slice A n c).ownBlock →
      wpList P ops Q rest (a.put o.dst (.slice A' (n + m) c')) w') : wpList P ops Q (o :: rest) a w := by
  refine wpList_append_any w hgd s x t ho base e i (.int .u8 0) 1 1 ht hi hz hsize hby rfl (by omega) (.slice A n c) n (bs l) hs hown.own w.heap.size A2 m c2 (bs r) hx hr.reads (bs_one r) (Nat.le_trans hbytes pow47) (by omega) hbase ?_
  intro v' w' h1 h2 _
  rw [← bs_append] at h1
  obtain ⟨A', c', rfl, h3⟩ := OwB.of_own h1
  exact h A' c' w' h3 h2

theorem step_append_b {ops : Array Oper} {o : Oper} {a : Act} {K : Act → World → Prop} {Q : Exit → Act → World → Prop} {E : Prop} (hgd : o.guard = none) (s x : Operand) (t : TypeId)
    (ho : o.op = .call { callee := .builtin .append, args := #[s, x], argTypes := #[t, t] })
    (base : Nat) (e : TypeId) (i : TypeInfo) (ht : P.underlying t = some (.slice e)) (hi : P.info? e = some i) (hz : i.zero = some (.int .u8 0))
    (hsize : i.size = 1) (hby : i.bytes = 1)
    (A : Option Addr) (n c : Nat) (l : List UInt8) (hs : a.eval s = .slice A n c) (hown : OwB w base e A n c l)
    (A2 : Option Addr) (m c2 : Nat) (r : List UInt8) (hx : a.eval x = .slice A2 m c2) (hr : RdB w A2 m c2 r)
    (hbytes : n + m ≤ 140737488355328) (hbase : base ≤ w.heap.size)
    (h : ∀ A' c' w', OwB w' base e A' (n + m) c' (l ++ r) → w.grownBy w' (Value.slice A n c).ownBlock →
      K (a.put o.dst (.slice A' (n + m) c')) w') :
    if Region.wanted o (yielded ops a.tmps) = true then Oper.wp P o a w K Q else E := by
  refine step_append_any w hgd s x t ho base e i (.int .u8 0) 1 1 ht hi hz hsize hby rfl (by omega) (.slice A n c) n (bs l) hs hown.own w.heap.size A2 m c2 (bs r) hx hr.reads (bs_one r) (Nat.le_trans hbytes pow47) (by omega) hbase ?_
  intro v' w' h1 h2 _
  rw [← bs_append] at h1
  obtain ⟨A', c', rfl, h3⟩ := OwB.of_own h1
  exact h A' c' w' h3 h2
end

theorem RdB.alloc {w : World} {A : Option Addr} {n c : Nat} {l : List UInt8} (h : RdB w A n c l) (o : Obj) : RdB (w.alloc o) A n c l :=
  h.below ((Below.refl _ _).alloc (Nat.le_refl _) o)
theorem RdB.drewN {w : World} {A : Option Addr} {n c : Nat} {l : List UInt8} (h : RdB w A n c l) (k : Nat) : RdB (w.drewN k) A n c l := ⟨h.len, h.cap, h.max, h.reads⟩
theorem RdB.drew {w : World} {A : Option Addr} {n c : Nat} {l : List UInt8} (h : RdB w A n c l) : RdB w.drew A n c l := ⟨h.len, h.cap, h.max, h.reads⟩
theorem OwB.made0 (w : World) (base e : Nat) (hb : base ≤ w.heap.size) : OwB (w.alloc (.cells #[] e)) base e (some ⟨w.heap.size, 0, none⟩) 0 0 [] :=
  ⟨rfl, Nat.le_refl _, by unfold maxLen; omega, World.ownsRow_made w #[] 0 hb (by unfold maxLen; omega) rfl⟩

theorem below_call {w0 w w1 : World} (h : Below w0.heap.size w0 w) (hb : Below w.heap.size w w1) : Below w0.heap.size w0 w1 := h.trans (hb.mono h.size)
theorem below_drewN {B : Nat} {a w : World} (h : Below B a w) (n : Nat) : Below B a (w.drewN n) := ⟨h.os, h.tape, h.output, h.size, h.block⟩

/-- below block B the world w is as a was -/
def Bel (B : Nat) (a w : World) : Prop := B ≤ a.heap.size ∧ Below B a w
section
variable {B : Nat} {a w : World}
theorem bel_refl (h : B ≤ a.heap.size) : Bel B a a := ⟨h, Below.refl _ _⟩
theorem bel_drew (h : Bel B a w) : Bel B a w.drew := ⟨h.1, h.2.drew⟩
theorem bel_drewN (n : Nat) (h : Bel B a w) : Bel B a (w.drewN n) := ⟨h.1, below_drewN h.2 n⟩
theorem bel_alloc (o : Obj) (h : Bel B a w) : Bel B a (w.alloc o) := ⟨h.1, h.2.alloc (Nat.le_trans h.1 h.2.size) o⟩
theorem bel_set {p : Addr} (hp : B ≤ p.block) (u : Value) (h : Bel B a w) : Bel B a (w.setCell p u) := ⟨h.1, h.2.setCell hp u⟩
theorem bel_call {w1 : World} (hb : Below w.heap.size w w1) (h : Bel B a w) : Bel B a w1 := ⟨h.1, h.2.trans (hb.mono (Nat.le_trans h.1 h.2.size))⟩
theorem bel_grown {w1 : World} {row : Option Nat} (hg : w.grownBy w1 row) (hr : ∀ k, row = some k → B ≤ k) (h : Bel B a w) : Bel B a w1 := ⟨h.1, h.2.grown hg (Nat.le_trans h.1 h.2.size) hr⟩
theorem bel_out (h : Bel B a w) : Below B a w := h.2
end

theorem OwB.set {w : World} {base e : Nat} {A : Option Addr} {n c : Nat} {l : List UInt8} {p : Addr} {u : Value} (h : OwB w base e A n c l) (hp : p.block < base) : OwB (w.setCell p u) base e A n c l :=
  ⟨h.len, h.cap, h.max, ownsRow_setCell_below h.own hp _⟩

/-! ### the call's own variables, followed over calls -/
theorem heap_alloc_get (w : World) (o : Obj) (k : Nat) : (w.alloc o).heap[k]? = if k = w.heap.size then some o else w.heap[k]? := by
  show (w.heap.push o)[k]? = _
  rw [Array.getElem?_push]
theorem heap_drew_get (w : World) (k : Nat) : w.drew.heap[k]? = w.heap[k]? := rfl
theorem heap_drewN_get (w : World) (n k : Nat) : (w.drewN n).heap[k]? = w.heap[k]? := rfl
theorem heap_set_far (w : World) (g i k : Nat) (u : Value) (h : k ≠ g) : (w.setCell ⟨g, i, none⟩ u).heap[k]? = w.heap[k]? := Below.heap_setCell w ⟨g, i, none⟩ u k h
theorem heap_set_near (w : World) (g i t : Nat) (u : Value) (cs : Array Value) (h : w.heap[g]? = some (.cells cs t (0, 0))) : (w.setCell ⟨g, i, none⟩ u).heap[g]? = some (.cells (cs.setIfInBounds i u) t (0, 0)) := by
  simp [World.setCell, Array.getElem?_modify, h]
theorem size_set (w : World) (p : Addr) (u : Value) : (w.setCell p u).heap.size = w.heap.size := by simp [World.setCell]
theorem size_drew (w : World) : w.drew.heap.size = w.heap.size := rfl
theorem size_alloc_ (w : World) (o : Obj) : (w.alloc o).heap.size = w.heap.size + 1 := by simp

/-- a block of the call's own behind a call -/
theorem blk_cells {W w1 : World} {g t : Nat} {cs : Array Value} (hb : Below W.heap.size W w1) (h : W.heap[g]? = some (.cells cs t (0, 0))) :
    (∀ o, w1.cell? ⟨g, o, none⟩ = cs[o]?) ∧ (∀ o, w1.frozen? ⟨g, o, none⟩ = false) ∧ g < w1.heap.size ∧ w1.heap[g]? = some (.cells cs t (0, 0)) := by
  have hlt : g < W.heap.size := by
    rcases Nat.lt_or_ge g W.heap.size with h1 | h1
    · exact h1
    · rw [Array.getElem?_eq_none h1] at h; cases h
  have h1 : w1.heap[g]? = some (.cells cs t (0, 0)) := (hb.block g hlt).trans h
  exact ⟨fun o => Blk.cell h1 o, fun o => Blk.frozen h1 o, Nat.lt_of_lt_of_le hlt hb.size, h1⟩

theorem heap_new {w : World} {cs : Array Value} {t g : Nat} (h : g = w.heap.size) : (w.alloc (.cells cs t)).heap[g]? = some (.cells cs t (0, 0)) := by
  rw [heap_alloc_get, if_pos h]
theorem heap_old {w : World} {o x : Obj} {g : Nat} (h : w.heap[g]? = some x) : (w.alloc o).heap[g]? = some x := by
  have hlt : g < w.heap.size := by
    rcases Nat.lt_or_ge g w.heap.size with h1 | h1
    · exact h1
    · rw [Array.getElem?_eq_none h1] at h; cases h
  rw [heap_alloc_get, if_neg (by omega)]
  exact h
theorem heap_drew {w : World} {x : Obj} {g : Nat} (h : w.heap[g]? = some x) : w.drew.heap[g]? = some x := h
theorem heap_drewN {w : World} {x : Obj} {n g : Nat} (h : w.heap[g]? = some x) : (w.drewN n).heap[g]? = some x := h
theorem heap_far {w : World} {x : Obj} {g g' i : Nat} {u : Value} (hne : g ≠ g') (h : w.heap[g]? = some x) : (w.setCell ⟨g', i, none⟩ u).heap[g]? = some x := (heap_set_far w g' i g u hne).trans h
theorem heap_near {w : World} {g i t : Nat} {u : Value} {cs : Array Value} (h : w.heap[g]? = some (.cells cs t (0, 0))) : (w.setCell ⟨g, i, none⟩ u).heap[g]? = some (.cells (cs.setIfInBounds i u) t (0, 0)) := heap_set_near w g i t u cs h
theorem heap_call {W w1 : World} {x : Obj} {g : Nat} (hb : Below W.heap.size W w1) (h : W.heap[g]? = some x) : w1.heap[g]? = some x := by
  have hlt : g < W.heap.size := by
    rcases Nat.lt_or_ge g W.heap.size with h1 | h1
    · exact h1
    · rw [Array.getElem?_eq_none h1] at h; cases h
  exact (hb.block g hlt).trans h

theorem heap_near' {w : World} {g i t : Nat} {u : Value} {cs cs' : Array Value} (h : w.heap[g]? = some (.cells cs t (0, 0))) (e : cs.setIfInBounds i u = cs') : (w.setCell ⟨g, i, none⟩ u).heap[g]? = some (.cells cs' t (0, 0)) := by
  subst e; exact heap_set_near w g i t u cs h

theorem OwB.call {w w1 : World} {base e : Nat} {A : Option Addr} {n c : Nat} {l : List UInt8} (hb : Below w.heap.size w w1) (h : OwB w base e A n c l) : OwB w1 base e A n c l :=
  ⟨h.len, h.cap, h.max, h.own.1, h.own.2.imp id fun ⟨g, cap, cur, h1, h2, h3, r⟩ => ⟨g, cap, cur, h1, h2, heap_call hb h3, r⟩⟩
theorem OwB.alloc {w : World} {base e : Nat} {A : Option Addr} {n c : Nat} {l : List UInt8} (o : Obj) (h : OwB w base e A n c l) : OwB (w.alloc o) base e A n c l :=
  OwB.call ((Below.refl _ _).alloc (Nat.le_refl _) o) h
theorem OwB.drew {w : World} {base e : Nat} {A : Option Addr} {n c : Nat} {l : List UInt8} (h : OwB w base e A n c l) : OwB w.drew base e A n c l := ⟨h.len, h.cap, h.max, h.own⟩
theorem OwB.drewN {w : World} {base e : Nat} {A : Option Addr} {n c : Nat} {l : List UInt8} (k : Nat) (h : OwB w base e A n c l) : OwB (w.drewN k) base e A n c l := ⟨h.len, h.cap, h.max, h.own⟩

/-- the first k of the call's own bytes -/
theorem OwB.pre {w : World} {base e : Nat} {A : Option Addr} {n c : Nat} {l : List UInt8} (h : OwB w base e A n c l) (k : Nat) (hk : k ≤ n) : OwB w base e A k c (l.take k) := by
  have hl := h.len
  refine ⟨by rw [List.length_take]; omega, Nat.le_trans hk h.cap, h.max, by rw [length_bs, List.length_take]; omega, ?_⟩
  rcases h.own.2 with ⟨e1, e2⟩ | ⟨g, cap, cur, hv, hb, hh, hn, hm, hs, hx⟩
  · left
    injection e1 with e1 e3 e4
    subst e1
    exact ⟨by congr 1; omega, by omega⟩
  · right
    injection hv with e1 e3 e4
    subst e1
    subst e4
    refine ⟨g, c, cur, rfl, hb, hh, by omega, hm, hs, ?_⟩
    rw [bs_take, ← hx, List.take_take]
    congr 1
    omega
/-- the cell of the k-th of the call's own bytes -/
theorem OwB.cellAt {w : World} {base e : Nat} {A : Option Addr} {n c : Nat} {l : List UInt8} (h : OwB w base e A n c l) (k : Nat) (hk : k < n) :
    ∃ g, A = some ⟨g, 0, none⟩ ∧ base ≤ g ∧ g < w.heap.size ∧ w.cell? ⟨g, k, none⟩ = some (.int .u8 ((l.getD k 0).toNat : Int)) ∧ (∀ o, w.frozen? ⟨g, o, none⟩ = false) := by
  have hl := h.len
  rcases h.own.2 with ⟨e1, e2⟩ | ⟨g, cap, cur, hv, hb, hh, hn, hm, hs, hx⟩
  · omega
  · injection hv with e1 e3 e4
    subst e1
    subst e4
    have hlt : g < w.heap.size := by
      rcases Nat.lt_or_ge g w.heap.size with h1 | h1
      · exact h1
      · rw [Array.getElem?_eq_none h1] at hh; cases hh
    refine ⟨g, rfl, hb, hlt, ?_, fun o => Blk.frozen hh o⟩
    rw [World.ownsRow.cellAt h.own k (by omega)]
    have hk2 : k < l.length := by omega
    simp [bs, List.getElem?_map, List.getElem?_eq_getElem hk2]
/-- a store into the call's own bytes -/
theorem OwB.stored {w : World} {base e g : Nat} {n c : Nat} {l : List UInt8} (h : OwB w base e (some ⟨g, 0, none⟩) n c l) (k : Nat) (b : UInt8) :
    OwB (w.setCell ⟨g, k, none⟩ (.int .u8 (b.toNat : Int))) base e (some ⟨g, 0, none⟩) n c (l.set k b) := by
  have h1 := (World.ownsRow.stored h.own k (.int .u8 (b.toNat : Int))).1
  refine ⟨by rw [List.length_set]; exact h.len, h.cap, h.max, ?_⟩
  have e1 : bs (l.set k b) = (bs l).set k (.int .u8 (b.toNat : Int)) := by simp [bs, List.map_set]
  rw [e1]
  exact h1

theorem OwB.mono {w : World} {base base' e : Nat} {A : Option Addr} {n c : Nat} {l : List UInt8} (h : OwB w base e A n c l) (hb : base' ≤ base) : OwB w base' e A n c l :=
  ⟨h.len, h.cap, h.max, h.own.1, h.own.2.imp id fun ⟨g, cap, cur, h1, h2, r⟩ => ⟨g, cap, cur, h1, Nat.le_trans hb h2, r⟩⟩

/-- the lowest 8 bits of a number -/
def low8 (x : Int) : UInt8 := UInt8.ofNat (x % 256).toNat
theorem low8_toNat (x : Int) : ((low8 x).toNat : Int) = x % 256 := by
  have h0 : 0 ≤ x % 256 := Int.emod_nonneg _ (by omega)
  have h1 : x % 256 < 256 := Int.emod_lt_of_pos _ (by omega)
  unfold low8
  rw [UInt8.toNat_ofNat']
  omega
theorem xor_u8 (a b : UInt8) : bits .xor .u8 (a.toNat : Int) (b.toNat : Int) = ((a ^^^ b).toNat : Int) := by
  have ha := a.toNat_lt
  have hb := b.toNat_lt
  have hx : a.toNat ^^^ b.toNat < 2 ^ 8 := Nat.xor_lt_two_pow (by omega) (by omega)
  have e : ∀ x : UInt8, (BitVec.ofInt 8 (x.toNat : Int)).toNat = x.toNat := by
    intro x
    have := x.toNat_lt
    rw [BitVec.ofInt_natCast, BitVec.toNat_ofNat]
    exact Nat.mod_eq_of_lt (by omega)
  show IntKind.u8.wrap ((BitVec.ofInt 8 (a.toNat : Int) ^^^ BitVec.ofInt 8 (b.toNat : Int)).toNat : Int) = _
  rw [BitVec.toNat_xor, e, e, UInt8.toNat_xor]
  rw [IntKind.wrap_u8]
  omega

/-- bytes that came in, at their address -/
theorem RdB.opened {w : World} {A : Option Addr} {n c : Nat} {l : List UInt8} (h : RdB w A n c l) (hn : 0 < n) :
    ∃ b off, A = some ⟨b, off, none⟩ ∧ b < w.heap.size ∧ ∀ j, j < n → w.cell? ⟨b, off + j, none⟩ = some (.int .u8 ((l.getD j 0).toNat : Int)) := by
  obtain ⟨⟨b, off, sp⟩, e, hb, hc⟩ := h.reads.2 hn
  have hl := h.len
  have hcell : ∀ j, j < n → w.cell? ((⟨b, off, sp⟩ : Addr).add j) = some (.int .u8 ((l.getD j 0).toNat : Int)) := fun j hj => by
    apply hc
    have hj2 : j < l.length := by omega
    simp [bs, List.getElem?_map, List.getElem?_eq_getElem hj2]
  have hsp : sp = none := by simpa [Addr.add] using World.cell?_spot (hcell 0 hn)
  subst hsp
  refine ⟨b, off, e, hb, fun j hj => ?_⟩
  have := hcell j hj
  unfold Addr.add at this
  by_cases h0 : j = 0
  · subst h0; simpa using this
  · simpa [h0] using this

end Go.Proofs.YtobgnncdldfkkaaDoor
