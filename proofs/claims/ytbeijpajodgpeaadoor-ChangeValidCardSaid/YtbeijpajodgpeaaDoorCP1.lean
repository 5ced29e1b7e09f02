/- The plain law of changes: what is valid, how it is encoded, how it is read. -/
import Derived.Test.YtbeijpajodgpeaaDoorQP1
namespace Go.Proofs.YtbeijpajodgpeaaDoor
set_option linter.unusedSimpArgs false
set_option linter.unusedVariables false

/-- a revision -/
structure Rv where
  num : Int
  us : ByteArray
  nt : ByteArray
  tx : ByteArray
  mi : Int
  sq : Int
deriving DecidableEq
/-- a change -/
structure Cg where
  kd : Int
  us : ByteArray
  nt : ByteArray
  ts : Int
  tn : ByteArray
  os : Int
  on : ByteArray
  tx : ByteArray
  n : Int
  hs : List Rv
deriving DecidableEq
def rv0 : Rv := ⟨0, ⟨#[]⟩, ⟨#[]⟩, ⟨#[]⟩, 0, 0⟩
def cg0 : Cg := ⟨0, ⟨#[]⟩, ⟨#[]⟩, 0, ⟨#[]⟩, 0, ⟨#[]⟩, ⟨#[]⟩, 0, []⟩
instance : Inhabited Rv := ⟨rv0⟩
instance : Inhabited Cg := ⟨cg0⟩
theorem ba_nil {s : ByteArray} (h : s.size = 0) : s = ⟨#[]⟩ := by
  obtain ⟨a⟩ := s
  have : a.size = 0 := h
  rw [Array.eq_empty_of_size_eq_zero this]

/-- a byte of a name -/
def nmB (c : UInt8) : Bool := decide (97 ≤ c.toNat ∧ c.toNat ≤ 122) || decide (48 ≤ c.toNat ∧ c.toNat ≤ 57) || decide (c.toNat = 45) || decide (c.toNat = 95)
def bAt (s : ByteArray) (i : Nat) : UInt8 := s.data.toList.getD i 0
/-- a name -/
def isNm (s : ByteArray) : Bool := decide (1 ≤ s.size ∧ s.size ≤ 30) && decide (97 ≤ (bAt s 0).toNat ∧ (bAt s 0).toNat ≤ 122) && (List.range s.size).all fun i => nmB (bAt s i)
/-- a user -/
def isUs (s : ByteArray) : Bool := decide (s.size = 0) || isNm s

def fU (k : Int) : Bool := decide (1 ≤ k ∧ k ≤ 10 ∧ k ≠ 6)
def fN (k : Int) : Bool := decide (k = 1 ∨ k = 9)
def fT (k : Int) : Bool := decide (1 ≤ k ∧ k ≤ 9 ∧ k ≠ 6)
def fO (k : Int) : Bool := decide (k = 4)
def fK (k : Int) : Bool := decide (k = 4 ∨ k = 6 ∨ k = 9 ∨ k = 10)
def fH (k : Int) : Bool := decide (k = 5)
def fV (k : Int) : Bool := decide (1 ≤ k ∧ k ≤ 10)

/-- the fields that the kind does not use are zero -/
def frm (c : Cg) : Bool := (fU c.kd || decide (c.us.size = 0)) && (fN c.kd || decide (c.nt.size = 0)) && (fT c.kd || (decide (c.ts = 0) && decide (c.tn.size = 0))) && (fO c.kd || (decide (c.os = 0) && decide (c.on.size = 0))) && (fN c.kd || decide (c.tx.size = 0)) && (fK c.kd || decide (c.n = 0)) && (fH c.kd || decide (c.hs.length = 0))
def loB (k : Int) : Int := if k = 4 then 0 else if k = 6 then 1 else if k = 9 then 0 else 1
def hiB (k : Int) : Int := if k = 4 then 1 else if k = 6 then 52596000 else if k = 9 then 40 else 1073741824
def prv (l : List Rv) (i : Nat) : Int := if i = 0 then 0 else (l.getD (i - 1) rv0).mi
def hOk (l : List Rv) (i : Nat) : Bool := decide ((l.getD i rv0).num = i + 1) && decide ((l.getD i rv0).sq = 0) && isUs (l.getD i rv0).us && decide (prv l i ≤ (l.getD i rv0).mi) && decide ((l.getD i rv0).mi < 52596000)
def hst (l : List Rv) : Bool := decide (1 ≤ l.length ∧ l.length ≤ 40) && (List.range l.length).all fun i => hOk l i
def rng (c : Cg) : Bool := (!fT c.kd || tv c.ts c.tn) && (!fO c.kd || tv c.os c.on) && isUs c.us && (!decide (c.kd = 7 ∨ c.kd = 8) || !decide (c.us.size = 0)) && (!fK c.kd || decide (loB c.kd ≤ c.n ∧ c.n ≤ hiB c.kd)) && (!fH c.kd || hst c.hs)
def bigR (r : Rv) : Bool := decide (8192 < r.tx.size) || decide (200 < r.nt.size)
def bigC (c : Cg) : Bool := decide (8192 < c.tx.size) || decide (200 < c.nt.size)
/-- the error of a change -/
def cv (c : Cg) : Int := if (fV c.kd && frm c) = false then 7 else if rng c = false then 2 else if bigC c = true then 3 else if c.hs.any bigR = true then 3 else 0
theorem cv_ok {c : Cg} (h : cv c = 0) : fV c.kd = true ∧ frm c = true ∧ rng c = true ∧ bigC c = false ∧ c.hs.any bigR = false := by
  unfold cv at h
  split at h
  · cases h
  · rename_i h1
    split at h
    · cases h
    · rename_i h2
      split at h
      · cases h
      · rename_i h3
        split at h
        · cases h
        · rename_i h4
          rw [Bool.not_eq_false, Bool.and_eq_true] at h1
          exact ⟨h1.1, h1.2, by simpa using h2, by simpa using h3, by simpa using h4⟩
theorem cv_kind {c : Cg} (h : cv c = 0) : 1 ≤ c.kd ∧ c.kd ≤ 10 := of_decide_eq_true (cv_ok h).1
theorem cv_range (c : Cg) : cv c = 0 ∨ cv c = 2 ∨ cv c = 3 ∨ cv c = 7 := by
  unfold cv
  repeat' split
  all_goals omega

/-- a number in groups of 7 bits -/
def nmb (n : Nat) : List UInt8 := if h : n < 128 then [UInt8.ofNat n] else UInt8.ofNat (128 + n % 128) :: nmb (n / 128)
termination_by n
decreasing_by omega
theorem nmb_lt {n : Nat} (h : n < 128) : nmb n = [UInt8.ofNat n] := by rw [nmb, dif_pos h]
theorem nmb_ge {n : Nat} (h : 128 ≤ n) : nmb n = UInt8.ofNat (128 + n % 128) :: nmb (n / 128) := by rw [nmb, dif_neg (by omega)]
def txt (s : ByteArray) : List UInt8 := nmb s.size ++ s.data.toList
def ttl (x : Int) (s : ByteArray) : List UInt8 := nmb x.toNat ++ txt s
def encR (r : Rv) : List UInt8 := txt r.us ++ txt r.nt ++ txt r.tx ++ nmb r.mi.toNat
def encH (l : List Rv) : List UInt8 := l.flatMap encR
def iff' (b : Bool) (l : List UInt8) : List UInt8 := if b = true then l else []
def encC (c : Cg) : List UInt8 := nmb c.kd.toNat ++ iff' (fU c.kd) (txt c.us) ++ iff' (fN c.kd) (txt c.nt) ++ iff' (fT c.kd) (ttl c.ts c.tn) ++ iff' (fO c.kd) (ttl c.os c.on) ++ iff' (fN c.kd) (txt c.tx) ++ iff' (fK c.kd) (nmb c.n.toNat) ++ iff' (fH c.kd) (nmb c.hs.length ++ encH c.hs)
def encL (l : List Cg) : List UInt8 := nmb l.length ++ l.flatMap encC
/-- the first error in a list -/
def fstE : List Cg → Int
  | [] => 0
  | c :: r => if cv c = 0 then fstE r else cv c
/-- the error of an encoding -/
def ecE (l : List Cg) : Int := if l.length < 1 ∨ 16 < l.length then 2 else if fstE l ≠ 0 then fstE l else if 65536 < (encL l).length then 3 else 0
def ecB (l : List Cg) : List UInt8 := if ecE l = 0 then encL l else []

/-! ### reading -/
def pn : Nat → List UInt8 → Option (Nat × List UInt8)
  | 0, _ => none
  | _ + 1, [] => none
  | f + 1, c :: r => if c.toNat < 128 then some (c.toNat, r) else (pn f r).map fun p => (c.toNat % 128 + 128 * p.1, p.2)
def pNum (l : List UInt8) : Option (Nat × List UInt8) := pn 5 l
def pTxt (l : List UInt8) : Option (ByteArray × List UInt8) := (pNum l).bind fun p => if p.1 ≤ p.2.length then some (⟨(p.2.take p.1).toArray⟩, p.2.drop p.1) else none
def pTtl (l : List UInt8) : Option ((Int × ByteArray) × List UInt8) := (pNum l).bind fun p => (pTxt p.2).map fun q => ((p.1, q.1), q.2)
def pRv (i : Nat) (l : List UInt8) : Option (Rv × List UInt8) :=
  (pTxt l).bind fun a => (pTxt a.2).bind fun b => (pTxt b.2).bind fun c => (pNum c.2).map fun d => (⟨i + 1, a.1, b.1, c.1, d.1, 0⟩, d.2)
/-- n further revisions behind i ones -/
def pRs : Nat → Nat → List UInt8 → Option (List Rv × List UInt8)
  | _, 0, l => some ([], l)
  | i, n + 1, l => (pRv i l).bind fun a => (pRs (i + 1) n a.2).map fun b => (a.1 :: b.1, b.2)
def pHst (l : List UInt8) : Option (List Rv × List UInt8) := (pNum l).bind fun p => if p.1 ≤ 40 then pRs 0 p.1 p.2 else none
def opt {α : Type} (b : Bool) (d : α) (p : List UInt8 → Option (α × List UInt8)) (l : List UInt8) : Option (α × List UInt8) := if b = true then p l else some (d, l)
def pInt (l : List UInt8) : Option (Int × List UInt8) := (pNum l).map fun p => ((p.1 : Int), p.2)
def pCg (l : List UInt8) : Option (Cg × List UInt8) :=
  (pInt l).bind fun k => if fV k.1 = false then none else
  (opt (fU k.1) ⟨#[]⟩ pTxt k.2).bind fun u => (opt (fN k.1) ⟨#[]⟩ pTxt u.2).bind fun nt => (opt (fT k.1) (0, ⟨#[]⟩) pTtl nt.2).bind fun t =>
  (opt (fO k.1) (0, ⟨#[]⟩) pTtl t.2).bind fun o => (opt (fN k.1) ⟨#[]⟩ pTxt o.2).bind fun x => (opt (fK k.1) 0 pInt x.2).bind fun n =>
  (opt (fH k.1) [] pHst n.2).map fun h => (⟨k.1, u.1, nt.1, t.1.1, t.1.2, o.1.1, o.1.2, x.1, n.1, h.1⟩, h.2)
def pCs : Nat → List UInt8 → Option (List Cg × List UInt8)
  | 0, l => some ([], l)
  | n + 1, l => (pCg l).bind fun a => (pCs n a.2).map fun b => (a.1 :: b.1, b.2)
def pL (l : List UInt8) : Option (List Cg × List UInt8) := (pNum l).bind fun p => if p.1 ≤ 16 then pCs p.1 p.2 else none
/-- what is read, if its encoding is what was read -/
def dc (b : List UInt8) : Option (List Cg) := (pL b).bind fun p => if ecE p.1 = 0 ∧ encL p.1 = b then some p.1 else none

/-! ### what is encoded is read again -/
theorem pn_nmb : ∀ (f n : Nat) (r : List UInt8), n < 128 ^ f → 0 < f → pn f (nmb n ++ r) = some (n, r) := by
  intro f
  induction f with
  | zero => intro n r _ h; omega
  | succ f ih =>
    intro n r h _
    rcases Nat.lt_or_ge n 128 with h1 | h1
    · rw [nmb_lt h1]
      have e : (UInt8.ofNat n).toNat = n := by rw [UInt8.toNat_ofNat']; omega
      simp [pn, e, h1]
    · have hf : 0 < f := by
        rcases Nat.eq_zero_or_pos f with h0 | h0
        · subst h0; simp at h; omega
        · exact h0
      have hd : n / 128 < 128 ^ f := by
        rw [Nat.pow_succ] at h
        exact Nat.div_lt_of_lt_mul (by rw [Nat.mul_comm]; exact h)
      rw [nmb_ge h1, List.cons_append]
      have e : (UInt8.ofNat (128 + n % 128)).toNat = 128 + n % 128 := by rw [UInt8.toNat_ofNat']; omega
      have hge : ¬ (128 + n % 128) < 128 := by omega
      simp only [pn, e, if_neg hge, ih (n / 128) r hd hf, Option.map_some]
      congr 2
      omega
theorem pNum_nmb {n : Nat} (r : List UInt8) (h : n < 34359738368) : pNum (nmb n ++ r) = some (n, r) := pn_nmb 5 n r (by simpa using h) (by omega)
theorem pInt_nmb {z : Int} (r : List UInt8) (h0 : 0 ≤ z) (h : z < 34359738368) : pInt (nmb z.toNat ++ r) = some (z, r) := by
  unfold pInt
  rw [pNum_nmb r (by omega)]
  simp [Int.toNat_of_nonneg h0]
theorem pTxt_txt {s : ByteArray} (r : List UInt8) (h : s.size < 34359738368) : pTxt (txt s ++ r) = some (s, r) := by
  unfold pTxt txt
  rw [List.append_assoc, pNum_nmb _ h]
  have hl : s.data.toList.length = s.size := by simp
  simp only [Option.bind_some]
  rw [if_pos (by rw [List.length_append, hl]; omega), List.take_append_of_le_length (by omega), List.drop_append_of_le_length (by omega), ← hl, List.take_length, List.drop_length]
  rfl
theorem pTtl_ttl {x : Int} {s : ByteArray} (r : List UInt8) (h0 : 0 ≤ x) (h1 : x < 34359738368) (h : s.size < 34359738368) : pTtl (ttl x s ++ r) = some ((x, s), r) := by
  unfold pTtl ttl
  rw [List.append_assoc, pNum_nmb _ (by omega)]
  simp only [Option.bind_some]
  rw [pTxt_txt r h]
  simp [Int.toNat_of_nonneg h0]
/-- a revision as an import has it -/
structure RvOk (i : Nat) (r : Rv) : Prop where
  num : r.num = i + 1
  sq : r.sq = 0
  us : r.us.size ≤ 30
  nt : r.nt.size ≤ 200
  tx : r.tx.size ≤ 8192
  m0 : 0 ≤ r.mi
  m1 : r.mi < 52596000
theorem pRv_enc {i : Nat} {r : Rv} (l : List UInt8) (h : RvOk i r) : pRv i (encR r ++ l) = some (r, l) := by
  unfold pRv encR
  have h1 := h.us
  have h2 := h.nt
  have h3 := h.tx
  have h4 := h.m0
  have h5 := h.m1
  rw [List.append_assoc, List.append_assoc, List.append_assoc, pTxt_txt _ (by omega)]
  simp only [Option.bind_some]
  rw [pTxt_txt _ (by omega)]
  simp only [Option.bind_some]
  rw [pTxt_txt _ (by omega)]
  simp only [Option.bind_some]
  rw [pNum_nmb _ (by omega)]
  obtain ⟨a, b, c, d, e, f⟩ := r
  have e1 : a = i + 1 := h.num
  have e2 : f = 0 := h.sq
  subst e1 e2
  simp only [Option.map_some, Int.toNat_of_nonneg h4]
theorem pRs_enc : ∀ (L : List Rv) (i : Nat) (l : List UInt8), (∀ j r, L[j]? = some r → RvOk (i + j) r) → pRs i L.length (encH L ++ l) = some (L, l)
  | [], i, l, _ => by simp [pRs, encH]
  | r :: R, i, l, h => by
    have h0 : RvOk i r := h 0 r rfl
    have hr := pRs_enc R (i + 1) l fun j q hj => by
      have := h (j + 1) q (by simpa using hj)
      rw [show i + 1 + j = i + (j + 1) by omega]
      exact this
    show (pRv i (encH (r :: R) ++ l)).bind _ = _
    rw [show encH (r :: R) = encR r ++ encH R by simp [encH], List.append_assoc, pRv_enc _ h0]
    simp only [Option.bind_some]
    rw [hr]
    rfl
theorem isNm_size {s : ByteArray} (h : isNm s = true) : 1 ≤ s.size ∧ s.size ≤ 30 := by
  unfold isNm at h
  simp only [Bool.and_eq_true] at h
  exact of_decide_eq_true h.1.1
theorem isUs_size {s : ByteArray} (h : isUs s = true) : s.size ≤ 30 := by
  unfold isUs at h
  rw [Bool.or_eq_true] at h
  rcases h with h | h
  · have := of_decide_eq_true h; omega
  · exact (isNm_size h).2
theorem hst_mono {l : List Rv} (h : ∀ i, i < l.length → hOk l i = true) : ∀ i, i < l.length → 0 ≤ (l.getD i rv0).mi := by
  intro i
  induction i with
  | zero =>
    intro hi
    have := h 0 hi
    simp only [hOk, Bool.and_eq_true, decide_eq_true_eq] at this
    have h2 := this.1.2
    simpa [prv] using h2
  | succ i ih =>
    intro hi
    have := h (i + 1) hi
    simp only [hOk, Bool.and_eq_true, decide_eq_true_eq] at this
    have h2 := this.1.2
    have h3 := ih (by omega)
    have h4 : prv l (i + 1) = (l.getD i rv0).mi := by simp [prv]
    omega
theorem hst_all {l : List Rv} (h : hst l = true) : 1 ≤ l.length ∧ l.length ≤ 40 ∧ ∀ i, i < l.length → hOk l i = true := by
  unfold hst at h
  rw [Bool.and_eq_true] at h
  have h1 := of_decide_eq_true h.1
  exact ⟨h1.1, h1.2, fun i hi => List.all_eq_true.1 h.2 i (List.mem_range.2 hi)⟩
theorem hst_rv {l : List Rv} (h : hst l = true) (hb : l.any bigR = false) : ∀ j r, l[j]? = some r → RvOk j r := by
  intro j r hj
  obtain ⟨h1, h2, h3⟩ := hst_all h
  obtain ⟨hlt, e⟩ := List.getElem?_eq_some_iff.1 hj
  have hg : l.getD j rv0 = r := by simp [List.getD, hj]
  have h4 := h3 j hlt
  have h5 := hst_mono h3 j hlt
  simp only [hOk, Bool.and_eq_true, decide_eq_true_eq, hg] at h4
  rw [hg] at h5
  have h6 := List.any_eq_false.1 hb r (List.mem_of_getElem? hj)
  simp only [bigR, Bool.or_eq_true, decide_eq_true_eq, not_or] at h6
  exact ⟨h4.1.1.1.1, h4.1.1.1.2, isUs_size h4.1.1.2, by omega, by omega, h5, h4.2⟩
theorem pHst_enc {L : List Rv} (l : List UInt8) (h : hst L = true) (hb : L.any bigR = false) : pHst (nmb L.length ++ encH L ++ l) = some (L, l) := by
  unfold pHst
  obtain ⟨h1, h2, h3⟩ := hst_all h
  rw [List.append_assoc, pNum_nmb _ (by omega)]
  simp only [Option.bind_some]
  rw [if_pos h2]
  exact pRs_enc L 0 l fun j r hj => by rw [Nat.zero_add]; exact hst_rv h hb j r hj
theorem opt_enc {α : Type} {b : Bool} {d v : α} {p : List UInt8 → Option (α × List UInt8)} {x l : List UInt8} (h1 : b = true → p (x ++ l) = some (v, l)) (h2 : b = false → v = d) : opt b d p (iff' b x ++ l) = some (v, l) := by
  unfold opt iff'
  cases b with
  | true => simpa using h1 rfl
  | false => simp [h2 rfl]
theorem tv_range {x : Int} {s : ByteArray} (h : tv x s = true) : 0 ≤ x ∧ x < 6 ∧ 1 ≤ s.size ∧ s.size ≤ 100 := by
  unfold tv at h
  split at h
  · assumption
  · cases h
theorem pCg_enc {c : Cg} (l : List UInt8) (h : cv c = 0) : pCg (encC c ++ l) = some (c, l) := by
  obtain ⟨hv, hf, hr, hb, hhb⟩ := cv_ok h
  have hk := cv_kind h
  obtain ⟨kd, us, nt, ts, tn, os, on, tx, n, hs⟩ := c
  simp only [bigC, Bool.or_eq_false_iff, decide_eq_false_iff_not] at hv hf hr hb hhb hk
  simp only [frm, Bool.and_eq_true, Bool.or_eq_true, decide_eq_true_eq] at hf
  simp only [rng, Bool.and_eq_true, Bool.or_eq_true, Bool.not_eq_true', decide_eq_true_eq] at hr
  obtain ⟨⟨⟨⟨⟨⟨f1, f2⟩, f3⟩, f4⟩, f5⟩, f6⟩, f7⟩ := hf
  obtain ⟨⟨⟨⟨⟨r1, r2⟩, r3⟩, r4⟩, r5⟩, r6⟩ := hr
  have hus := isUs_size r3
  unfold pCg encC
  simp only [List.append_assoc]
  rw [pInt_nmb _ (by omega) (by omega)]
  simp only [Option.bind_some]
  rw [if_neg (by rw [hv]; decide)]
  rw [opt_enc (v := us) (fun _ => pTxt_txt _ (by omega)) (fun e => ba_nil (by rw [e] at f1; simpa using f1))]
  simp only [Option.bind_some]
  rw [opt_enc (v := nt) (fun _ => pTxt_txt _ (by omega)) (fun e => ba_nil (by rw [e] at f2; simpa using f2))]
  simp only [Option.bind_some]
  have hts : fT kd = false → ((ts, tn) : Int × ByteArray) = (0, ⟨#[]⟩) := fun e => by
    rw [e] at f3
    have f3' : ts = 0 ∧ tn.size = 0 := by simpa using f3
    rw [f3'.1, ba_nil f3'.2]
  have hos : fO kd = false → ((os, on) : Int × ByteArray) = (0, ⟨#[]⟩) := fun e => by
    rw [e] at f4
    have f4' : os = 0 ∧ on.size = 0 := by simpa using f4
    rw [f4'.1, ba_nil f4'.2]
  rw [opt_enc (v := (ts, tn)) (fun e => by rw [e] at r1; have := tv_range (by simpa using r1); exact pTtl_ttl _ (by omega) (by omega) (by omega)) hts]
  simp only [Option.bind_some]
  rw [opt_enc (v := (os, on)) (fun e => by rw [e] at r2; have := tv_range (by simpa using r2); exact pTtl_ttl _ (by omega) (by omega) (by omega)) hos]
  simp only [Option.bind_some]
  rw [opt_enc (v := tx) (fun _ => pTxt_txt _ (by omega)) (fun e => ba_nil (by rw [e] at f5; simpa using f5))]
  simp only [Option.bind_some]
  rw [opt_enc (v := n) (fun e => by
    rw [e] at r5
    have r5' : loB kd ≤ n ∧ n ≤ hiB kd := by simpa using r5
    have : 0 ≤ loB kd ∧ hiB kd ≤ 1073741824 := by unfold loB hiB; constructor <;> (repeat' split) <;> omega
    exact pInt_nmb _ (by omega) (by omega)) (fun e => by rw [e] at f6; simpa using f6)]
  simp only [Option.bind_some]
  rw [opt_enc (v := hs) (fun e => by rw [e] at r6; exact pHst_enc _ (by simpa using r6) hhb) (fun e => by rw [e] at f7; exact List.length_eq_zero_iff.1 (by simpa using f7))]
  rfl
theorem fstE_ok {L : List Cg} (h : fstE L = 0) : ∀ c ∈ L, cv c = 0 := by
  induction L with
  | nil => intro c hc; cases hc
  | cons a r ih =>
    unfold fstE at h
    split at h
    · rename_i h0
      intro c hc
      rcases List.mem_cons.1 hc with e | e
      · rw [e]; exact h0
      · exact ih h c e
    · rename_i h0; exact absurd h h0
theorem fstE_of {L : List Cg} (h : ∀ c ∈ L, cv c = 0) : fstE L = 0 := by
  induction L with
  | nil => rfl
  | cons a r ih =>
    unfold fstE
    rw [if_pos (h a (by simp))]
    exact ih fun c hc => h c (by simp [hc])
theorem pCs_enc : ∀ (L : List Cg) (l : List UInt8), (∀ c ∈ L, cv c = 0) → pCs L.length (L.flatMap encC ++ l) = some (L, l)
  | [], l, _ => by simp [pCs]
  | c :: R, l, h => by
    have hr := pCs_enc R l fun q hq => h q (by simp [hq])
    show (pCg ((c :: R).flatMap encC ++ l)).bind _ = _
    rw [List.flatMap_cons, List.append_assoc, pCg_enc _ (h c (by simp))]
    simp only [Option.bind_some]
    rw [hr]
    rfl
theorem pL_enc {L : List Cg} (l : List UInt8) (h : ∀ c ∈ L, cv c = 0) (hl : L.length ≤ 16) : pL (encL L ++ l) = some (L, l) := by
  unfold pL encL
  rw [List.append_assoc, pNum_nmb _ (by omega)]
  simp only [Option.bind_some]
  rw [if_pos hl]
  exact pCs_enc L l h
theorem ecE_ok {L : List Cg} (h : ecE L = 0) : (∀ c ∈ L, cv c = 0) ∧ 1 ≤ L.length ∧ L.length ≤ 16 ∧ (encL L).length ≤ 65536 := by
  unfold ecE at h
  split at h
  · cases h
  · rename_i h1
    split at h
    · rename_i h2; exact absurd h h2
    · rename_i h2
      split at h
      · cases h
      · rename_i h3
        exact ⟨fstE_ok (by omega), by omega, by omega, by omega⟩
theorem dc_enc {L : List Cg} (h : ecE L = 0) : dc (encL L) = some L := by
  obtain ⟨h1, h2, h3, h4⟩ := ecE_ok h
  have := pL_enc (L := L) [] h1 h3
  rw [List.append_nil] at this
  unfold dc
  rw [this]
  simp [h]
/-- an encoding with more bytes, or less, is none -/
theorem dc_more {L : List Cg} (h : ecE L = 0) {x : List UInt8} (hx : x ≠ []) : dc (encL L ++ x) = none := by
  obtain ⟨h1, h2, h3, h4⟩ := ecE_ok h
  unfold dc
  rw [pL_enc x h1 h3]
  simp only [Option.bind_some]
  rw [if_neg]
  rintro ⟨_, e⟩
  have := congrArg List.length e
  rw [List.length_append] at this
  exact hx (List.length_eq_zero_iff.1 (by omega))
theorem dc_less {L : List Cg} (h : ecE L = 0) {k : Nat} (hk : k < (encL L).length) : dc ((encL L).take k) = none := by
  cases hd : dc ((encL L).take k) with
  | none => rfl
  | some M =>
    exfalso
    unfold dc at hd
    cases hp : pL ((encL L).take k) with
    | none => rw [hp] at hd; cases hd
    | some p =>
      rw [hp] at hd
      simp only [Option.bind_some] at hd
      split at hd
      · rename_i hh
        injection hd with hd
        have e1 : encL L = encL p.1 ++ (encL L).drop k := by rw [hh.2, List.take_append_drop]
        have e2 := dc_more (L := p.1) hh.1 (x := (encL L).drop k) (fun e => by have := congrArg List.length e; rw [List.length_drop] at this; simp at this; omega)
        rw [← e1, dc_enc h] at e2
        cases e2
      · cases hd
theorem encL_inj {L M : List Cg} (h : ecE L = 0) (h2 : ecE M = 0) (e : encL L = encL M) : L = M := by
  have e1 := dc_enc h
  have e2 := dc_enc h2
  rw [e] at e1
  exact Option.some.inj (e1.symm.trans e2)
end Go.Proofs.YtbeijpajodgpeaaDoor
