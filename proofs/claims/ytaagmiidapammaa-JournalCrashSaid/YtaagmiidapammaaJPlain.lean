/- Plain functions of chapter 25: sums, numbers as bytes, frames, what is read. -/
import Derived.Test.YtaagmiidapammaaWords
namespace Go.Proofs.Ytaagmiidapammaa
open Go.RowKit
set_option linter.unusedSimpArgs false
set_option linter.unusedVariables false

def fnvS (h : UInt32) (b : UInt8) : UInt32 := (h ^^^ b.toUInt32) * 16777619
def fnv (h : UInt32) (l : List UInt8) : UInt32 := l.foldl fnvS h
def sumP (l : List UInt8) : UInt32 := fnv 2166136261 l
theorem fnv_append (h : UInt32) (l r : List UInt8) : fnv h (l ++ r) = fnv (fnv h l) r := by simp [fnv]

/-- the step is one to one in the hash -/
theorem fnvS_inj {a b : UInt32} {x : UInt8} (h : fnvS a x = fnvS b x) : a = b := by
  unfold fnvS at h
  have h1 : ∀ c : UInt32, c * 16777619 * 899433627 = c := by
    intro c
    rw [UInt32.mul_assoc]
    have : (16777619 : UInt32) * 899433627 = 1 := by decide
    rw [this, UInt32.mul_one]
  have h2 : a ^^^ x.toUInt32 = b ^^^ x.toUInt32 := by
    rw [← h1 (a ^^^ x.toUInt32), ← h1 (b ^^^ x.toUInt32), h]
  have h3 : ∀ c : UInt32, (c ^^^ x.toUInt32) ^^^ x.toUInt32 = c := by
    intro c
    rw [UInt32.xor_assoc, UInt32.xor_self, UInt32.xor_zero]
  rw [← h3 a, ← h3 b, h2]
theorem fnvS_byte {a : UInt32} {x y : UInt8} (h : fnvS a x = fnvS a y) : x = y := by
  unfold fnvS at h
  have h1 : ∀ c : UInt32, c * 16777619 * 899433627 = c := by
    intro c
    rw [UInt32.mul_assoc]
    have : (16777619 : UInt32) * 899433627 = 1 := by decide
    rw [this, UInt32.mul_one]
  have h2 : a ^^^ x.toUInt32 = a ^^^ y.toUInt32 := by
    rw [← h1 (a ^^^ x.toUInt32), ← h1 (a ^^^ y.toUInt32), h]
  have h3 : ∀ c : UInt32, a ^^^ (a ^^^ c) = c := by
    intro c
    rw [← UInt32.xor_assoc, UInt32.xor_self, UInt32.zero_xor]
  have h4 : x.toUInt32 = y.toUInt32 := by rw [← h3 x.toUInt32, ← h3 y.toUInt32, h2]
  have h5 := congrArg UInt32.toNat h4
  simp at h5
  exact UInt8.toNat_inj.1 h5
theorem fnv_inj {a b : UInt32} (l : List UInt8) (h : fnv a l = fnv b l) : a = b := by
  induction l generalizing a b with
  | nil => exact h
  | cons x l ih => exact fnvS_inj (ih h)
/-- one changed byte changes the sum -/
theorem fnv_set (h : UInt32) (l : List UInt8) (k : Nat) (y : UInt8) (hk : k < l.length) (hy : y ≠ l.getD k 0) : fnv h (l.set k y) ≠ fnv h l := by
  induction l generalizing h k with
  | nil => simp at hk
  | cons x l ih =>
    cases k with
    | zero =>
      intro e
      have := fnv_inj l (a := fnvS h y) (b := fnvS h x) e
      exact hy (by simpa using fnvS_byte this)
    | succ k =>
      simp only [List.set_cons_succ]
      exact ih (fnvS h x) k (by simpa using hk) (by simpa using hy)

/-- the lowest k bytes of a number, the most significant one first -/
def be : Nat → Nat → List UInt8
  | _, 0 => []
  | v, k + 1 => be (v / 256) k ++ [UInt8.ofNat v]
theorem be_length (v k : Nat) : (be v k).length = k := by
  induction k generalizing v with
  | zero => rfl
  | succ k ih => simp [be, ih]
theorem be_cons (v k : Nat) : be v (k + 1) = UInt8.ofNat (v / 256 ^ k) :: be v k := by
  induction k generalizing v with
  | zero => simp [be]
  | succ k ih =>
    rw [be, ih, be]
    simp [Nat.div_div_eq_div_mul, Nat.pow_succ, Nat.mul_comm]
/-- the number that bytes are -/
def valS (v : Nat) (b : UInt8) : Nat := v * 256 + b.toNat
def val (l : List UInt8) : Nat := l.foldl valS 0
theorem val_snoc (l : List UInt8) (b : UInt8) : val (l ++ [b]) = val l * 256 + b.toNat := by simp [val, valS]
theorem val_lt' (n : Nat) : ∀ l : List UInt8, l.length = n → val l < 256 ^ n := by
  induction n with
  | zero =>
    intro l hl
    have : l = [] := List.eq_nil_of_length_eq_zero hl
    subst this
    simp [val]
  | succ n ih =>
    intro l hl
    rcases List.eq_nil_or_concat l with rfl | ⟨l', b, rfl⟩
    · simp at hl
    · rw [List.concat_eq_append] at hl ⊢
      have hl2 : l'.length = n := by simpa using hl
      have := ih l' hl2
      have hb := b.toNat_lt
      rw [val_snoc, Nat.pow_succ]
      simp at hb
      omega
theorem val_lt (l : List UInt8) : val l < 256 ^ l.length := val_lt' _ l rfl
theorem val_be (v k : Nat) : val (be v k) = v % 256 ^ k := by
  induction k generalizing v with
  | zero => simp [be, val, Nat.mod_one]
  | succ k ih =>
    rw [be, val_snoc, ih, Nat.pow_succ, UInt8.toNat_ofNat']
    have h1 := Nat.mod_mul_left_div_self v 256 (256 ^ k)
    have h2 := Nat.div_add_mod (v % (256 ^ k * 256)) 256
    have h3 : v % (256 ^ k * 256) % 256 = v % 256 := Nat.mod_mul_left_mod v (256 ^ k) 256
    rw [h1, h3] at h2
    omega

def headB (n seq : Nat) : List UInt8 := be n 4 ++ be seq 8
theorem headB_length (n seq : Nat) : (headB n seq).length = 12 := by simp [headB, be_length]
def frameB (seq : Nat) (d : List UInt8) : List UInt8 := headB d.length seq ++ be (sumP (headB d.length seq ++ d)).toNat 4 ++ d
theorem frameB_length (seq : Nat) (d : List UInt8) : (frameB seq d).length = 16 + d.length := by simp [frameB, headB_length, be_length]; omega

def seqB (s : Int) : Bool := decide (1 ≤ s ∧ s ≤ 1073741824)
def frE (s : Int) (d : List UInt8) : Int := if seqB s = true then (if 65536 < d.length then 3 else 0) else 2
def frL (s : Int) (d : List UInt8) : List UInt8 := if seqB s = true then (if 65536 < d.length then [] else frameB s.toNat d) else []

def nLen (b : List UInt8) : Nat := val (b.take 4)
def nSeq (b : List UInt8) : Nat := val ((b.drop 4).take 8)
def nChk (b : List UInt8) : Nat := val ((b.drop 12).take 4)
def nDat (b : List UInt8) : List UInt8 := (b.drop 16).take (nLen b)
def sumOk (b : List UInt8) : Bool := decide ((sumP (b.take 12 ++ nDat b)).toNat = nChk b)
def nxE (b : List UInt8) : Int :=
  if b.length < 16 then 13 else if 65536 < nLen b then 3 else if b.length < 16 + nLen b then 13 else if sumOk b = true then (if seqB (nSeq b) = true then 0 else 2) else 14
def nxN (b : List UInt8) : Nat := if nxE b = 0 then 16 + nLen b else 0
def nxS (b : List UInt8) : Nat := if nxE b = 0 then nSeq b else 0
def nxD (b : List UInt8) : List UInt8 := if nxE b = 0 then nDat b else []

theorem nx_ok {b : List UInt8} (h : nxE b = 0) : 16 ≤ b.length ∧ nLen b ≤ 65536 ∧ 16 + nLen b ≤ b.length ∧ sumOk b = true ∧ seqB (nSeq b) = true := by
  unfold nxE at h
  repeat' split at h
  all_goals first | (exfalso; omega) | exact ⟨by omega, by omega, by omega, by assumption, by assumption⟩

theorem nLen_frame (seq : Nat) (d r : List UInt8) (hd : d.length ≤ 65536) : nLen (frameB seq d ++ r) = d.length := by
  have e : (frameB seq d ++ r).take 4 = be d.length 4 := by
    simp only [frameB, headB, List.append_assoc]
    exact List.take_left' (be_length _ _)
  rw [nLen, e, val_be]
  exact Nat.mod_eq_of_lt (by omega)
theorem nSeq_frame (seq : Nat) (d r : List UInt8) (hs : seq ≤ 1073741824) : nSeq (frameB seq d ++ r) = seq := by
  have e : ((frameB seq d ++ r).drop 4).take 8 = be seq 8 := by
    simp only [frameB, headB, List.append_assoc]
    rw [List.drop_left' (be_length _ _)]
    exact List.take_left' (be_length _ _)
  rw [nSeq, e, val_be]
  exact Nat.mod_eq_of_lt (by omega)
theorem nChk_frame (seq : Nat) (d r : List UInt8) : nChk (frameB seq d ++ r) = (sumP (headB d.length seq ++ d)).toNat := by
  have e : ((frameB seq d ++ r).drop 12).take 4 = be (sumP (headB d.length seq ++ d)).toNat 4 := by
    simp only [frameB, List.append_assoc]
    rw [List.drop_left' (headB_length _ _)]
    exact List.take_left' (be_length _ _)
  rw [nChk, e, val_be]
  exact Nat.mod_eq_of_lt (UInt32.toNat_lt _)
theorem nDat_frame (seq : Nat) (d r : List UInt8) (hd : d.length ≤ 65536) : nDat (frameB seq d ++ r) = d := by
  rw [nDat, nLen_frame seq d r hd]
  have e : (frameB seq d ++ r).drop 16 = d ++ r := by
    simp only [frameB, List.append_assoc]
    rw [← List.append_assoc]
    exact List.drop_left' (by simp [headB_length, be_length])
  rw [e]
  exact List.take_left' rfl
theorem take12_frame (seq : Nat) (d r : List UInt8) : (frameB seq d ++ r).take 12 = headB d.length seq := by
  simp only [frameB, List.append_assoc]
  exact List.take_left' (headB_length _ _)
theorem nxE_frame (seq : Nat) (d r : List UInt8) (h1 : 1 ≤ seq) (hs : seq ≤ 1073741824) (hd : d.length ≤ 65536) : nxE (frameB seq d ++ r) = 0 := by
  have hl : (frameB seq d ++ r).length = 16 + d.length + r.length := by rw [List.length_append, frameB_length]
  have hk : sumOk (frameB seq d ++ r) = true := by
    unfold sumOk
    rw [nChk_frame, nDat_frame seq d r hd, take12_frame]
    simp
  have hq : seqB (nSeq (frameB seq d ++ r)) = true := by
    rw [nSeq_frame seq d r hs]
    simp [seqB]
    omega
  unfold nxE
  rw [nLen_frame seq d r hd, hl, if_neg (by omega), if_neg (by omega), if_neg (by omega), if_pos hk, if_pos hq]
theorem nx_frame (seq : Nat) (d r : List UInt8) (h1 : 1 ≤ seq) (hs : seq ≤ 1073741824) (hd : d.length ≤ 65536) :
    nxE (frameB seq d ++ r) = 0 ∧ nxN (frameB seq d ++ r) = 16 + d.length ∧ nxS (frameB seq d ++ r) = seq ∧ nxD (frameB seq d ++ r) = d := by
  have h := nxE_frame seq d r h1 hs hd
  refine ⟨h, ?_, ?_, ?_⟩
  · rw [nxN, if_pos h, nLen_frame seq d r hd]
  · rw [nxS, if_pos h, nSeq_frame seq d r hs]
  · rw [nxD, if_pos h, nDat_frame seq d r hd]

/-- the records that follow one another, and the bytes that they take -/
def scan : Nat → List UInt8 → Int → List (Nat × List UInt8) × Nat
  | 0, _, _ => ([], 0)
  | f + 1, b, q => if nxE b = 0 ∧ (nxS b : Int) = q then ((nxS b, nxD b) :: (scan f (b.drop (nxN b)) (q + 1)).1, nxN b + (scan f (b.drop (nxN b)) (q + 1)).2) else ([], 0)

end Go.Proofs.Ytaagmiidapammaa
