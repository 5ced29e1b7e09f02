/- Valid titles, in plain Lean: the pieces at '/', the prefix at ':', which bytes a name may hold. -/
import Derived.Test.YtobgnncdldfkkaaDoorSS
import Derived.Lib.SplitLaws
import Derived.Lib.IndexMore
import Derived.Lib.Strings
namespace Go.Proofs.YtobgnncdldfkkaaDoor
set_option linter.unusedSimpArgs false
set_option linter.unusedVariables false

abbrev bl (s : ByteArray) : List UInt8 := s.data.toList
theorem bl_len (s : ByteArray) : (bl s).length = s.size := by simp
def bB (l : List UInt8) : ByteArray := ⟨l.toArray⟩
theorem bB_bl (s : ByteArray) : bB (bl s) = s := rfl
theorem bB_size (l : List UInt8) : (bB l).size = l.length := by
  show l.toArray.size = _
  simp

/-- a byte in lower case -/
def ch (c : UInt8) : UInt8 := if 65 ≤ c.toNat ∧ c.toNat ≤ 90 then UInt8.ofNat (c.toNat + 32) else c
theorem ch_toNat (c : UInt8) : ((ch c).toNat : Int) = if 65 ≤ c.toNat ∧ c.toNat ≤ 90 then (c.toNat : Int) + 32 else c.toNat := by
  have hc := c.toNat_lt
  unfold ch
  split
  · rw [UInt8.toNat_ofNat']; omega
  · rfl
/-- the first n bytes in lower case -/
def cs (n : Nat) (l : List UInt8) : List UInt8 := (l.take n).map ch ++ l.drop n
theorem cs_all (l : List UInt8) : cs l.length l = l.map ch := by simp [cs]
theorem cs_len (n : Nat) (l : List UInt8) : (cs n l).length = l.length := by
  simp [cs]
  omega
theorem cs_zero (l : List UInt8) : cs 0 l = l := by simp [cs]
theorem cs_get {n : Nat} {l : List UInt8} (h : n < l.length) : (cs n l).getD n 0 = l.getD n 0 := by
  unfold cs
  rw [List.getD_eq_getElem?_getD, List.getElem?_append_right (by simp; omega)]
  simp [Nat.min_eq_left (Nat.le_of_lt h)]
theorem cs_set {n : Nat} {l : List UInt8} (h : n < l.length) : (cs n l).set n (ch (l.getD n 0)) = cs (n + 1) l := by
  apply List.ext_getElem?
  intro i
  have e : l.getD n 0 = l[n] := by simp [List.getD, List.getElem?_eq_getElem h]
  rw [e]
  by_cases h1 : i = n
  · subst h1
    rw [List.getElem?_set_self (by rw [cs_len]; exact h)]
    unfold cs
    rw [List.getElem?_append_left (by simp; omega)]
    simp [List.getElem?_take, List.getElem?_eq_getElem h]
  · rw [List.getElem?_set_ne (by omega)]
    unfold cs
    rcases Nat.lt_or_ge i n with h2 | h2
    · rw [List.getElem?_append_left (by simp; omega), List.getElem?_append_left (by simp; omega)]
      simp [List.getElem?_take, h2, show i < n + 1 by omega]
    · rw [List.getElem?_append_right (by simp; omega), List.getElem?_append_right (by simp; omega)]
      simp [Nat.min_eq_left (Nat.le_of_lt h), Nat.min_eq_left (show n + 1 ≤ l.length by omega)]
      congr 1
      omega
theorem cs_same {n : Nat} {l : List UInt8} (h : n < l.length) (hc : ch (l.getD n 0) = l.getD n 0) : cs (n + 1) l = cs n l := by
  rw [← cs_set h, hc]
  have h2 : n < (cs n l).length := by rw [cs_len]; exact h
  rw [← cs_get h]
  simp [List.getD, List.getElem?_eq_getElem h2]

/-- the pieces at '/' -/
def pcs : List UInt8 → List (List UInt8)
  | [] => [[]]
  | c :: t => if c = 47 then [] :: pcs t else match pcs t with | [] => [[c]] | h :: r => (c :: h) :: r
theorem pcs_ne : ∀ l : List UInt8, pcs l ≠ []
  | [] => by simp [pcs]
  | c :: t => by
    rw [pcs]
    split
    · simp
    · split <;> simp
theorem pcs_pos (l : List UInt8) : 0 < (pcs l).length := List.length_pos_iff.2 (pcs_ne l)
theorem pcs_len : ∀ l : List UInt8, (pcs l).length ≤ l.length + 1
  | [] => by simp [pcs]
  | c :: t => by
    have h1 := pcs_len t
    rw [pcs]
    split
    · simp; omega
    · split
      · simp
      · rename_i e
        rw [e] at h1
        simp at h1 ⊢
        omega
theorem pcs_small : ∀ (l p : List UInt8), p ∈ pcs l → p.length ≤ l.length
  | [], p, h => by simp [pcs] at h; simp [h]
  | c :: t, p, h => by
    have ih := pcs_small t
    rw [pcs] at h
    split at h
    · rcases List.mem_cons.1 h with h | h
      · simp [h]
      · have := ih p h; simp; omega
    · split at h
      · simp at h; simp [h]
      · rename_i x r e
        rcases List.mem_cons.1 h with h | h
        · subst h
          have := ih x (by rw [e]; exact List.mem_cons_self)
          simp; omega
        · have := ih p (by rw [e]; exact List.mem_cons_of_mem _ h)
          simp; omega
theorem pcs_slash : ∀ l : List UInt8, pcs (l ++ [47]) = pcs l ++ [[]]
  | [] => rfl
  | c :: t => by
    have ih := pcs_slash t
    rw [List.cons_append, pcs, pcs, ih]
    split
    · rfl
    · cases e : pcs t with
      | nil => exact absurd e (pcs_ne t)
      | cons h r => rfl
theorem set_last_cons {α : Type} (x : α) (r : List α) (hr : r ≠ []) (u : α) : (x :: r).set ((x :: r).length - 1) u = x :: r.set (r.length - 1) u := by
  have h0 := List.length_pos_iff.2 hr
  have e : (x :: r).length - 1 = (r.length - 1) + 1 := by simp; omega
  rw [e, List.set_cons_succ]
theorem getD_last_cons {α : Type} (x : α) (r : List α) (hr : r ≠ []) (u : α) : (x :: r).getD ((x :: r).length - 1) u = r.getD (r.length - 1) u := by
  have h0 := List.length_pos_iff.2 hr
  have e : (x :: r).length - 1 = (r.length - 1) + 1 := by simp; omega
  rw [e, List.getD_cons_succ]
theorem pcs_byte {c : UInt8} (hc : c ≠ 47) : ∀ l : List UInt8, pcs (l ++ [c]) = (pcs l).set ((pcs l).length - 1) ((pcs l).getD ((pcs l).length - 1) [] ++ [c])
  | [] => by simp [pcs, hc]
  | d :: t => by
    have ih := pcs_byte hc t
    have hne := pcs_ne t
    rw [List.cons_append, pcs, pcs, ih]
    split
    · rw [set_last_cons _ _ hne, getD_last_cons _ _ hne]
    · cases e : pcs t with
      | nil => exact absurd e hne
      | cons h r =>
        cases r with
        | nil => rfl
        | cons x y =>
          rw [set_last_cons h _ (by simp), getD_last_cons h _ (by simp)]
          show _ = ((d :: h) :: (x :: y)).set _ _
          rw [set_last_cons (d :: h) _ (by simp), getD_last_cons (d :: h) _ (by simp)]
theorem splitK_ne {c : UInt8} (hc : c ≠ 47) (t : List UInt8) (k : Nat) : ∃ h r, Lib.splitK [47] 0 k t = h :: r ∧ Lib.splitK [47] 0 k (c :: t) = (c :: h) :: r := by
  cases k with
  | zero => exact ⟨t, [], rfl, rfl⟩
  | succ k =>
    have e : Lib.index (c :: t) [47] = if Lib.index t [47] == -1 then -1 else Lib.index t [47] + 1 := by
      rw [Lib.index, if_neg (by simp only [List.isPrefixOf, Bool.and_true, beq_iff_eq]; exact fun h => hc h.symm)]
    by_cases h : Lib.index t [47] = -1
    · rw [h] at e
      refine ⟨t, [], ?_, ?_⟩
      · rw [Lib.splitK, h, if_pos (by rfl)]
      · rw [Lib.splitK, e, if_pos (by rfl)]
    · obtain ⟨i, hi⟩ : ∃ i : Nat, Lib.index t [47] = i := ⟨(Lib.index t [47]).toNat, by have := Lib.index_ge t [47]; omega⟩
      have hn : ¬ ((i : Int) == -1) = true := by rw [beq_iff_eq]; omega
      rw [hi, if_neg hn] at e
      have hn2 : ¬ (((i : Int) + 1) == -1) = true := by rw [beq_iff_eq]; omega
      have e3 : ((i : Int) + 1).toNat = i + 1 := by omega
      refine ⟨t.take i, Lib.splitK [47] 0 k (t.drop (i + 1)), ?_, ?_⟩
      · rw [Lib.splitK, hi, if_neg hn]; try rfl
      · rw [Lib.splitK, e, if_neg hn2, e3]; try rfl
theorem splitK_pcs : ∀ l : List UInt8, Lib.splitK [47] 0 (l.count 47) l = pcs l
  | [] => rfl
  | c :: t => by
    have ih := splitK_pcs t
    by_cases hc : c = 47
    · subst hc
      have e : Lib.index (47 :: t) [47] = 0 := by rw [Lib.index, if_pos (by simp [List.isPrefixOf])]
      rw [List.count_cons_self, Lib.splitK, e, if_neg (by decide)]
      show [] :: Lib.splitK [47] 0 (t.count 47) t = _
      rw [ih, pcs, if_pos rfl]
    · rw [List.count_cons_of_ne (fun h => hc (by simpa using h))]
      obtain ⟨h, r, e1, e2⟩ := splitK_ne hc t (t.count 47)
      rw [e2]
      rw [e1] at ih
      rw [pcs, if_neg hc, ← ih]
def sl : ByteArray := ⟨#[47]⟩
/-- the pieces of the first k bytes -/
def PCt (s : ByteArray) (k : Nat) : List ByteArray := (pcs ((bl s).take k)).map bB
/-- the pieces of a text -/
def PC (s : ByteArray) : List ByteArray := (pcs (bl s)).map bB
theorem split_PC (s : ByteArray) : Lib.splitB sl 0 (Lib.countB s sl) s = PC s := by
  have h := Lib.splitB_data sl 0 (Lib.countB s sl) s
  have hc : Lib.countB s sl = s.data.toList.count 47 := Lib.count_one 47 s.data.toList
  have e : sl.data.toList = [47] := rfl
  rw [e, hc, splitK_pcs] at h
  rw [hc]
  have h2 := congrArg (List.map fun l : List UInt8 => (⟨l.toArray⟩ : ByteArray)) h
  rw [List.map_map] at h2
  have e3 : ((fun l : List UInt8 => (⟨l.toArray⟩ : ByteArray)) ∘ fun x : ByteArray => x.data.toList) = id := by funext x; rfl
  rw [e3, List.map_id] at h2
  exact h2
theorem PCt_zero (s : ByteArray) : PCt s 0 = [ByteArray.empty] := rfl
theorem PCt_all (s : ByteArray) : PCt s s.size = PC s := by
  unfold PCt PC
  rw [List.take_of_length_le (by rw [bl_len]; exact Nat.le_refl _)]
theorem PCt_pos (s : ByteArray) (k : Nat) : 0 < (PCt s k).length := by unfold PCt; rw [List.length_map]; exact pcs_pos _
theorem PCt_len (s : ByteArray) (k : Nat) : (PCt s k).length ≤ k + 1 := by
  unfold PCt
  rw [List.length_map]
  have := pcs_len ((bl s).take k)
  rw [List.length_take] at this
  omega
theorem PC_len (s : ByteArray) : (PC s).length ≤ s.size + 1 := by rw [← PCt_all]; exact PCt_len _ _
theorem bl_get {s : ByteArray} {k : Nat} (h : k < s.size) : (bl s)[k]'(by rw [bl_len]; exact h) = s[k] := rfl
theorem bl_take {s : ByteArray} {k : Nat} (h : k < s.size) : (bl s).take (k + 1) = (bl s).take k ++ [s[k]] := by
  rw [List.take_add_one, List.getElem?_eq_getElem (by rw [bl_len]; exact h), bl_get h]
  rfl
theorem PCt_slash {s : ByteArray} {k : Nat} (h : k < s.size) (hc : s[k] = 47) : PCt s (k + 1) = PCt s k ++ [ByteArray.empty] := by
  unfold PCt
  rw [bl_take h, hc, pcs_slash, List.map_append]
  rfl
theorem bB_append (a b : List UInt8) : bB (a ++ b) = bB a ++ bB b := by
  unfold bB
  apply ByteArray.ext
  simp
theorem extract_one {s : ByteArray} {k : Nat} (h : k < s.size) : s.extract k (k + 1) = bB [s[k]] := by
  rw [Lib.extract_eq, List.drop_eq_getElem_cons (by show k < (bl s).length; rw [bl_len]; exact h), Nat.add_sub_cancel_left]
  rfl
theorem PCt_byte {s : ByteArray} {k : Nat} (h : k < s.size) (hc : s[k] ≠ 47) : PCt s (k + 1) = (PCt s k).set ((PCt s k).length - 1) ((PCt s k).getD ((PCt s k).length - 1) ByteArray.empty ++ s.extract k (k + 1)) := by
  unfold PCt
  rw [bl_take h, pcs_byte hc, List.map_set, List.length_map, bB_append, extract_one h]
  have h0 : (pcs ((bl s).take k)).length - 1 < (pcs ((bl s).take k)).length := by have := pcs_pos ((bl s).take k); omega
  congr 2
  simp [List.getD, List.getElem?_eq_getElem h0]
theorem PCt_small {s : ByteArray} {k : Nat} (j : Nat) : ((PCt s k).getD j ByteArray.empty).size ≤ s.size := by
  rcases Nat.lt_or_ge j (PCt s k).length with h | h
  · have e : (PCt s k).getD j ByteArray.empty = (PCt s k)[j] := by simp [List.getD, List.getElem?_eq_getElem h]
    rw [e]
    have hm : (PCt s k)[j] ∈ PCt s k := List.getElem_mem h
    obtain ⟨l, hl1, hl2⟩ := List.mem_map.1 hm
    rw [← hl2, bB_size]
    have := pcs_small _ _ hl1
    rw [List.length_take, bl_len] at this
    omega
  · have e : (PCt s k).getD j ByteArray.empty = ByteArray.empty := by simp [List.getD, List.getElem?_eq_none h]
    rw [e]
    exact Nat.zero_le _
/-- a piece that no title has -/
def badP (p : ByteArray) : Bool := if h : 0 < p.size then (p[0] == 32 || p[p.size - 1] == 32) else true

def setB : List UInt8 := [60, 62, 91, 93, 123, 125, 124, 35, 95]
/-- a byte that no title has -/
def badC (c : UInt8) : Bool := decide (c.toNat < 32) || c == 127 || setB.contains c
theorem set_byte (c : UInt8) : 0 ≤ Lib.indexByte setB c.toNat.toUInt8 ↔ setB.contains c = true := by
  have h : ∀ n : Fin 256, decide (0 ≤ Lib.indexByte setB (UInt8.ofNat n.val)) = setB.contains (UInt8.ofNat n.val) := by decide +kernel
  have := h ⟨c.toNat, c.toNat_lt⟩
  simp only [UInt8.ofNat_toNat] at this
  rw [← this]
  simp
theorem set_index (c : UInt8) : 0 ≤ Lib.index setB [c] ↔ setB.contains c = true := by
  have h : ∀ n : Fin 256, decide (0 ≤ Lib.index setB [UInt8.ofNat n.val]) = setB.contains (UInt8.ofNat n.val) := by decide +kernel
  have := h ⟨c.toNat, c.toNat_lt⟩
  simp only [UInt8.ofNat_toNat] at this
  rw [← this]
  simp
/-- byte i of a name is bad where it stands -/
def badAt (s : ByteArray) (i : Nat) : Bool := if h : i < s.size then badC s[i] || (s[i] == 32 && decide (0 < i) && s[i - 1] == 32) else false
def cln (s : ByteArray) : Bool := (List.range s.size).all fun i => !badAt s i
theorem cln_bad {s : ByteArray} {i : Nat} (h : i < s.size) (hb : badAt s i = true) : cln s = false := by
  unfold cln
  rw [List.all_eq_false]
  exact ⟨i, List.mem_range.2 h, by simp [hb]⟩
theorem cln_good {s : ByteArray} (h : ∀ i, i < s.size → badAt s i = false) : cln s = true := by
  unfold cln
  rw [List.all_eq_true]
  exact fun i hi => by simp [h i (List.mem_range.1 hi)]

def names : List ByteArray := [⟨#[]⟩, ⟨#[84, 97, 108, 107]⟩, ⟨#[85, 115, 101, 114]⟩, ⟨#[84, 101, 109, 112, 108, 97, 116, 101]⟩, ⟨#[67, 97, 116, 101, 103, 111, 114, 121]⟩, ⟨#[80, 114, 111, 106, 101, 99, 116]⟩]
/-- a text names a namespace, in whatever case -/
def isSp (l : List UInt8) : Bool := (List.range 6).any fun j => decide (1 ≤ j) && l.map ch == (bl (names.getD j ByteArray.empty)).map ch
theorem isSp_hit {l : List UInt8} {j : Nat} (h1 : 1 ≤ j) (h6 : j < 6) (h : l.map ch = (bl (names.getD j ByteArray.empty)).map ch) : isSp l = true := by
  unfold isSp
  rw [List.any_eq_true]
  exact ⟨j, List.mem_range.2 h6, by simp [h1, h]⟩
theorem isSp_miss {l : List UInt8} (h : ∀ j, 1 ≤ j → j < 6 → l.map ch ≠ (bl (names.getD j ByteArray.empty)).map ch) : isSp l = false := by
  unfold isSp
  rw [List.any_eq_false]
  intro j hj
  have h6 := List.mem_range.1 hj
  by_cases h1 : 1 ≤ j
  · have h2 := h j h1 h6
    simp only [List.getD_eq_getElem?_getD] at h2 ⊢
    simp [h2]
  · simp [h1]
/-- the prefix of a text names a namespace -/
def nmd (l : List UInt8) : Bool := decide (0 ≤ Lib.index l [58]) && isSp (Lib.trimSuffix (l.take (Lib.index l [58]).toNat) [32])
/-- a title is valid -/
def tv (x : Int) (s : ByteArray) : Bool :=
  if h : 0 ≤ x ∧ x < 6 ∧ 1 ≤ s.size ∧ s.size ≤ 100 then
    cln s && !(PC s).any badP && !(s[0] == 58 || (decide (97 ≤ s[0].toNat) && decide (s[0].toNat ≤ 122))) && (decide (x ≠ 0) || !nmd (bl s))
  else false
end Go.Proofs.YtobgnncdldfkkaaDoor
