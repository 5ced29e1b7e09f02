/- Slices of structs: rows of the call's own, and rows that are read; what an element is, is told by a relation. -/
import Derived.Test.YtobgnncdldfkkaaDoorOwn
namespace Go.Proofs.YtobgnncdldfkkaaDoor
open Go.RowKit
set_option linter.unusedSimpArgs false
set_option linter.unusedVariables false

/-- what is said of an element stays, if only new memory is made, or only blocks of other types than 'bad' turn -/
structure Stay {α : Type} (R : World → α → List Value → Prop) (bad : Nat) : Prop where
  below : ∀ (w w' : World) (a : α) (xs : List Value), Below w.heap.size w w' → R w a xs → R w' a xs
  grown : ∀ (w w' : World) (a : α) (xs : List Value) (row : Option Nat), w.grownBy w' row → (∀ g, row = some g → ∃ cs t, w.heap[g]? = some (.cells cs t (0, 0)) ∧ t ≠ bad) → R w a xs → R w' a xs

def Fits {α : Type} (R : World → α → List Value → Prop) (sz : Nat) (w : World) (L : List α) (xs : List Value) : Prop := ∀ k a, L[k]? = some a → R w a ((xs.drop (k * sz)).take sz)

/-- the slice (A, n, c) is the call's own and its elements are L -/
structure OwR {α : Type} (R : World → α → List Value → Prop) (sz : Nat) (w : World) (base e : Nat) (A : Option Addr) (n c : Nat) (L : List α) : Prop where
  len : n = L.length
  cap : n ≤ c
  max : c ≤ maxLen
  own : ∃ xs, w.ownsRow base e sz (.slice A n c) n xs ∧ Fits R sz w L xs
/-- the slice (A, n, c) reads as L -/
structure RdR {α : Type} (R : World → α → List Value → Prop) (sz : Nat) (w : World) (A : Option Addr) (n c : Nat) (L : List α) : Prop where
  len : n = L.length
  cap : n ≤ c
  max : c ≤ maxLen
  reads : ∃ xs, Reads w w.heap.size sz A n xs ∧ Fits R sz w L xs

section
variable {α : Type} {R : World → α → List Value → Prop} {sz base e n c bad : Nat} {w w' : World} {A : Option Addr} {L : List α}
theorem OwR.nil (R : World → α → List Value → Prop) (sz : Nat) (w : World) (base e : Nat) : OwR R sz w base e none 0 0 [] :=
  ⟨rfl, Nat.le_refl _, by unfold maxLen; omega, [], World.ownsRow_nil w base e sz, fun k a h => by simp at h⟩
theorem RdR.nil (R : World → α → List Value → Prop) (sz : Nat) (w : World) : RdR R sz w none 0 0 [] :=
  ⟨rfl, Nat.le_refl _, by unfold maxLen; omega, [], Reads.none_, fun k a h => by simp at h⟩
theorem OwR.rd (h : OwR R sz w base e A n c L) : RdR R sz w A n c L := by
  obtain ⟨xs, h1, h2⟩ := h.own
  exact ⟨h.len, h.cap, h.max, xs, Reads.of_own h1, h2⟩
theorem RdR.below (hS : Stay R bad) (h : RdR R sz w A n c L) (hb : Below w.heap.size w w') : RdR R sz w' A n c L := by
  obtain ⟨xs, h1, h2⟩ := h.reads
  exact ⟨h.len, h.cap, h.max, xs, (h1.below hb).more hb.size, fun k a hk => hS.below _ _ _ _ hb (h2 k a hk)⟩
theorem OwR.call (hS : Stay R bad) (h : OwR R sz w base e A n c L) (hb : Below w.heap.size w w') : OwR R sz w' base e A n c L := by
  obtain ⟨xs, h1, h2⟩ := h.own
  exact ⟨h.len, h.cap, h.max, xs, ⟨h1.1, h1.2.imp id fun ⟨g, cap, cur, a1, a2, a3, r⟩ => ⟨g, cap, cur, a1, a2, heap_call hb a3, r⟩⟩, fun k a hk => hS.below _ _ _ _ hb (h2 k a hk)⟩
theorem OwR.mono {base' : Nat} (h : OwR R sz w base e A n c L) (hb : base' ≤ base) : OwR R sz w base' e A n c L := by
  obtain ⟨xs, h1, h2⟩ := h.own
  exact ⟨h.len, h.cap, h.max, xs, ⟨h1.1, h1.2.imp id fun ⟨g, cap, cur, a1, a2, r⟩ => ⟨g, cap, cur, a1, Nat.le_trans hb a2, r⟩⟩, h2⟩
theorem OwR.set (hS : Stay R bad) (h : OwR R sz w base e A n c L) {p : Addr} {u : Value} {cs : Array Value} {t : Nat} (hh : w.heap[p.block]? = some (.cells cs t (0, 0))) (ht : t ≠ bad) (hp : p.block < base) : OwR R sz (w.setCell p u) base e A n c L := by
  obtain ⟨xs, h1, h2⟩ := h.own
  refine ⟨h.len, h.cap, h.max, xs, ⟨h1.1, h1.2.imp id fun ⟨g, cap, cur, a1, a2, a3, r⟩ => ⟨g, cap, cur, a1, a2, (Below.heap_setCell w p u g (by omega)).trans a3, r⟩⟩, fun k a hk => ?_⟩
  refine hS.grown w _ a _ (some p.block) ⟨rfl, rfl, rfl, by simp [World.setCell], fun k _ hne => Below.heap_setCell w p u k (fun e => hne (by rw [e]))⟩ (fun g hg => ?_) (h2 k a hk)
  injection hg with hg
  subst hg
  exact ⟨cs, t, hh, ht⟩
/-- the cells of an element -/
theorem RdR.opened (h : RdR R sz w A n c L) (hsz : 0 < sz) (hn : 0 < n) (hsp : ∀ xs, Reads w w.heap.size sz A n xs → xs ≠ []) :
    ∃ b off, A = some ⟨b, off, none⟩ ∧ b < w.heap.size ∧ ∀ k a, L[k]? = some a → ∃ cs, R w a cs ∧ cs.length = sz ∧ ∀ j v, cs[j]? = some v → w.cell? ⟨b, off + (k * sz + j), none⟩ = some v := by
  obtain ⟨xs, h1, h2⟩ := h.reads
  obtain ⟨⟨b, off, sp⟩, e1, hb, hc⟩ := h1.2 hn
  have hl := h1.1
  have hx : 0 < xs.length := List.length_pos_iff.2 (hsp xs h1)
  have hs0 : sp = none := by
    have := hc 0 _ (List.getElem?_eq_getElem hx)
    simpa [Addr.add] using World.cell?_spot this
  subst hs0
  have hadd : ∀ j, (⟨b, off, none⟩ : Addr).add j = ⟨b, off + j, none⟩ := fun j => by
    unfold Addr.add
    by_cases h0 : j = 0
    · subst h0; simp
    · simp [h0]
  refine ⟨b, off, e1, hb, fun k a hk => ⟨_, h2 k a hk, ?_, fun j v hv => ?_⟩⟩
  · have hkl : k < L.length := by
      rcases Nat.lt_or_ge k L.length with h3 | h3
      · exact h3
      · rw [List.getElem?_eq_none h3] at hk; cases hk
    have hkn : k + 1 ≤ n := by have := h.len; omega
    have := Nat.mul_le_mul_right sz hkn
    rw [Nat.add_mul, Nat.one_mul] at this
    rw [List.length_take, List.length_drop, hl]
    omega
  · rw [List.getElem?_take] at hv
    split at hv
    · rw [List.getElem?_drop] at hv
      rw [← hadd]
      exact hc _ v hv
    · cases hv
end

section
variable {P : Program} {α : Type} {R : World → α → List Value → Prop} {bad : Nat}
theorem run_append_r (w : World) (sz by' : Nat) (base : Nat) (t ty e : TypeId) (i : TypeInfo) (z : Value) (hS : Stay R bad) (hne : e ≠ bad) (ht : P.underlying t = some (.slice e)) (hi : P.info? e = some i) (hz : i.zero = some z)
    (hsize : i.size = sz) (hby : i.bytes = by') (hzs : z.cells.size = sz) (hsz : 0 < sz)
    (A : Option Addr) (n c : Nat) (L : List α) (hown : OwR R sz w base e A n c L)
    (A2 : Option Addr) (m c2 : Nat) (L2 : List α) (news : List Value) (hr : Reads w w.heap.size sz A2 m news) (hf : Fits R sz w L2 news) (hm : m = L2.length) (h1 : ∀ u ∈ news, u.oneCell' = true)
    (h63 : n + m ≤ maxLen) (hbytes : (n + m) * by' ≤ 140737488355328) (hbase : base ≤ w.heap.size) :
    ∃ A' c' w', (Builtin.append_ #[t, t] ty #[.slice A n c, .slice A2 m c2]).run P w = .ok (.slice A' (n + m) c') w' ∧ OwR R sz w' base e A' (n + m) c' (L ++ L2) ∧ OwG base w w' A A' := by
  obtain ⟨xs, ho, hfx⟩ := hown.own
  obtain ⟨v', w', hrun, h2, h3, h4⟩ := run_append_any (P := P) w base t ty e i z sz by' ht hi hz hsize hby hzs hsz (.slice A n c) n xs ho w.heap.size A2 m c2 news hr h1 h63 hbytes hbase
  obtain ⟨A', c', rfl, hc1, hc2⟩ := own_shape h2
  have hlen := hown.len
  have hgr : ∀ g, (Value.slice A n c).ownBlock = some g → ∃ cs t, w.heap[g]? = some (.cells cs t (0, 0)) ∧ t ≠ bad := by
    intro g hg
    rcases ho.2 with ⟨e1, e2⟩ | ⟨g', cap, cur, hv, hb, hh, _⟩
    · rw [e1] at hg; simp [Value.ownBlock] at hg
    · injection hv with e1
      subst e1
      have : g' = g := by simpa [Value.ownBlock] using hg
      subst this
      exact ⟨cur, e, hh, hne⟩
  refine ⟨A', c', w', hrun, ⟨by rw [List.length_append]; omega, hc1, hc2, _, h2, ?_⟩, ?_⟩
  · intro k a hk
    have hxl : xs.length = n * sz := ho.1
    rcases Nat.lt_or_ge k L.length with hlt | hge
    · rw [List.getElem?_append_left hlt] at hk
      have h5 := hS.grown _ _ _ _ _ h3 hgr (hfx k a hk)
      have hkn : k + 1 ≤ n := by omega
      have h6 := Nat.mul_le_mul_right sz hkn
      rw [Nat.add_mul, Nat.one_mul] at h6
      rw [List.drop_append_of_le_length (by omega), List.take_append_of_le_length (by rw [List.length_drop]; omega)]
      exact h5
    · rw [List.getElem?_append_right hge] at hk
      have h5 := hS.grown _ _ _ _ _ h3 hgr (hf (k - L.length) a hk)
      have e1 : k * sz = xs.length + (k - L.length) * sz := by
        rw [hxl, hlen, ← Nat.add_mul]
        congr 1
        omega
      rw [e1, List.drop_append]
      have e2 : xs.drop (xs.length + (k - L.length) * sz) = [] := List.drop_of_length_le (by omega)
      rw [e2, List.nil_append, show xs.length + (k - L.length) * sz - xs.length = (k - L.length) * sz by omega]
      exact h5
  · rw [ownBlock_slice] at h3 h4
    rw [ownBlock_slice] at h4
    refine ⟨h3, h4.imp id fun h5 => ⟨_, h5, Nat.le_refl _⟩, ?_⟩
    exact (Below.refl _ _).grown h3 hbase (fun k hk => by
      rw [← ownBlock_slice A n c] at hk
      exact (ho.lt k hk).1)

theorem wpList_append_r (w : World) {ops : Array Oper} {rest : List Oper} {o : Oper} {a : Act} {Q : Exit → Act → World → Prop} (hgd : o.guard = none) (s x : Operand) (t : TypeId)
    (ho : o.op = .call { callee := .builtin .append, args := #[s, x], argTypes := #[t, t] })
    (sz by' : Nat) (base : Nat) (e : TypeId) (i : TypeInfo) (z : Value) (hS : Stay R bad) (hne : e ≠ bad) (ht : P.underlying t = some (.slice e)) (hi : P.info? e = some i) (hz : i.zero = some z)
    (hsize : i.size = sz) (hby : i.bytes = by') (hzs : z.cells.size = sz) (hsz : 0 < sz)
    (A : Option Addr) (n c : Nat) (L : List α) (hs : a.eval s = .slice A n c) (hown : OwR R sz w base e A n c L)
    (A2 : Option Addr) (m c2 : Nat) (hx : a.eval x = .slice A2 m c2) (L2 : List α) (news : List Value) (hr : Reads w w.heap.size sz A2 m news) (hf : Fits R sz w L2 news) (hm : m = L2.length) (h1 : ∀ u ∈ news, u.oneCell' = true)
    (h63 : n + m ≤ maxLen) (hbytes : (n + m) * by' ≤ 140737488355328) (hbase : base ≤ w.heap.size)
    (h : ∀ A' c' w', OwR R sz w' base e A' (n + m) c' (L ++ L2) → OwG base w w' A A' → wpList P ops Q rest (a.put o.dst (.slice A' (n + m) c')) w') : wpList P ops Q (o :: rest) a w := by
  obtain ⟨A', c', w', hrun, h2, h3⟩ := run_append_r (P := P) w sz by' base t o.type e i z hS hne ht hi hz hsize hby hzs hsz A n c L hown A2 m c2 L2 news hr hf hm h1 h63 hbytes hbase
  refine wpList_plain hgd fun _ hK => ?_
  unfold Oper.wp execOp
  simp only [ho, resolve, invoke, builtin, Sem.run_bind, Sem.run_pure, Result.andThen_ok, List.map_toArray, List.map_cons, List.map_nil, hs, hx, hrun]
  exact hK _ _ (h A' c' w' h2 h3)
theorem step_append_r (w : World) {ops : Array Oper} {o : Oper} {a : Act} {K : Act → World → Prop} {Q : Exit → Act → World → Prop} {E : Prop} (hgd : o.guard = none) (s x : Operand) (t : TypeId)
    (ho : o.op = .call { callee := .builtin .append, args := #[s, x], argTypes := #[t, t] })
    (sz by' : Nat) (base : Nat) (e : TypeId) (i : TypeInfo) (z : Value) (hS : Stay R bad) (hne : e ≠ bad) (ht : P.underlying t = some (.slice e)) (hi : P.info? e = some i) (hz : i.zero = some z)
    (hsize : i.size = sz) (hby : i.bytes = by') (hzs : z.cells.size = sz) (hsz : 0 < sz)
    (A : Option Addr) (n c : Nat) (L : List α) (hs : a.eval s = .slice A n c) (hown : OwR R sz w base e A n c L)
    (A2 : Option Addr) (m c2 : Nat) (hx : a.eval x = .slice A2 m c2) (L2 : List α) (news : List Value) (hr : Reads w w.heap.size sz A2 m news) (hf : Fits R sz w L2 news) (hm : m = L2.length) (h1 : ∀ u ∈ news, u.oneCell' = true)
    (h63 : n + m ≤ maxLen) (hbytes : (n + m) * by' ≤ 140737488355328) (hbase : base ≤ w.heap.size)
    (h : ∀ A' c' w', OwR R sz w' base e A' (n + m) c' (L ++ L2) → OwG base w w' A A' → K (a.put o.dst (.slice A' (n + m) c')) w') :
    if Region.wanted o (yielded ops a.tmps) = true then Oper.wp P o a w K Q else E := by
  have hw : Region.wanted o (yielded ops a.tmps) = true := by simp [Region.wanted, hgd]
  rw [if_pos hw]
  obtain ⟨A', c', w', hrun, h2, h3⟩ := run_append_r (P := P) w sz by' base t o.type e i z hS hne ht hi hz hsize hby hzs hsz A n c L hown A2 m c2 L2 news hr hf hm h1 h63 hbytes hbase
  unfold Oper.wp execOp
  simp only [ho, resolve, invoke, builtin, Sem.run_bind, Sem.run_pure, Result.andThen_ok, List.map_toArray, List.map_cons, List.map_nil, hs, hx, hrun]
  exact h A' c' w' h2 h3
end

/-- one element that a literal laid -/
theorem Reads.lit {w : World} {t : Nat} {sz : Nat} {cs : Array Value} (h : cs.size = sz) : Reads (w.alloc (.cells cs t)) (w.alloc (.cells cs t)).heap.size sz (some ⟨w.heap.size, 0, none⟩) 1 cs.toList := by
  refine ⟨by simp [h], fun _ => ⟨_, rfl, by rw [size_alloc_]; exact Nat.lt_succ_self _, fun j u hu => ?_⟩⟩
  have e : (⟨w.heap.size, 0, none⟩ : Addr).add j = ⟨w.heap.size, j, none⟩ := by
    unfold Addr.add
    by_cases h0 : j = 0 <;> simp [h0]
  have h1 : (w.alloc (.cells cs t)).heap[w.heap.size]? = some (.cells cs t) := by rw [heap_alloc_get, if_pos rfl]
  rw [e, cell_of_row _ _ j _ _ _ h1]
  simpa using hu
theorem Reads.litAt {w : World} {t g : Nat} {sz : Nat} {cs : Array Value} (hg : g = w.heap.size) (h : cs.size = sz) : Reads (w.alloc (.cells cs t)) (w.alloc (.cells cs t)).heap.size sz (some ⟨g, 0, none⟩) 1 cs.toList := by
  subst hg; exact Reads.lit h
theorem Fits.one {α : Type} {R : World → α → List Value → Prop} {sz : Nat} {w : World} {a : α} {xs : List Value} (hl : xs.length = sz) (h : R w a xs) : Fits R sz w [a] xs := by
  intro k b hk
  cases k with
  | zero =>
    simp at hk
    subst hk
    simpa [List.take_of_length_le (by omega : xs.length ≤ sz)] using h
  | succ k => simp at hk

/-- the blocks of a slice have the element's type -/
def TyB (w : World) (t : Nat) (A : Option Addr) : Prop := ∀ ad, A = some ad → ∃ cs fr, w.heap[ad.block]? = some (.cells cs t fr)
theorem OwB.ty {w : World} {base e : Nat} {A : Option Addr} {n c : Nat} {l : List UInt8} (h : OwB w base e A n c l) : TyB w e A := by
  intro ad hA
  rcases h.own.2 with ⟨e1, e2⟩ | ⟨g', cap, cur, hv, hb, hh, _⟩
  · injection e1 with e1; rw [e1] at hA; cases hA
  · injection hv with e1
    rw [e1] at hA
    injection hA with hA
    subst hA
    exact ⟨cur, _, hh⟩
theorem TyB.below {w w' : World} {t : Nat} {A : Option Addr} (h : TyB w t A) (hb : Below w.heap.size w w') : TyB w' t A := by
  intro ad hA
  obtain ⟨cs, fr, h1⟩ := h ad hA
  exact ⟨cs, fr, heap_call hb h1⟩
theorem TyB.grown {w w' : World} {t : Nat} {A : Option Addr} {row : Option Nat} (h : TyB w t A) (hg : w.grownBy w' row) (hr : ∀ g, row = some g → ∃ cs t', w.heap[g]? = some (.cells cs t' (0, 0)) ∧ t' ≠ t) :
    TyB w' t A ∧ ∀ ad, A = some ad → w'.heap[ad.block]? = w.heap[ad.block]? := by
  have key : ∀ ad, A = some ad → w'.heap[ad.block]? = w.heap[ad.block]? := by
    intro ad hA
    obtain ⟨cs, fr, h1⟩ := h ad hA
    have hlt : ad.block < w.heap.size := by
      rcases Nat.lt_or_ge ad.block w.heap.size with h2 | h2
      · exact h2
      · rw [Array.getElem?_eq_none h2] at h1; cases h1
    refine hg.block ad.block hlt (fun e1 => ?_)
    obtain ⟨cs', t', h3, h5⟩ := hr ad.block e1.symm
    rw [h1] at h3
    injection h3 with h3
    injection h3 with _ h4
    exact h5 h4.symm
  refine ⟨fun ad hA => ?_, key⟩
  obtain ⟨cs, fr, h1⟩ := h ad hA
  exact ⟨cs, fr, (key ad hA).trans h1⟩
theorem RdB.grownT {w w' : World} {t : Nat} {A : Option Addr} {n c : Nat} {l : List UInt8} {row : Option Nat} (h : RdB w A n c l) (hT : TyB w t A) (hg : w.grownBy w' row) (hr : ∀ g, row = some g → ∃ cs t', w.heap[g]? = some (.cells cs t' (0, 0)) ∧ t' ≠ t) : RdB w' A n c l := by
  obtain ⟨_, key⟩ := TyB.grown hT hg hr
  refine ⟨h.len, h.cap, h.max, h.reads.1, fun h0 => ?_⟩
  obtain ⟨ad, e1, hb, hc⟩ := h.reads.2 h0
  refine ⟨ad, e1, Nat.lt_of_lt_of_le hb hg.size, fun j u hu => ?_⟩
  refine (World.cell?_of_block (w := w) ?_).trans (hc j u hu)
  rw [block_of_add]
  exact key ad e1

end Go.Proofs.YtobgnncdldfkkaaDoor
