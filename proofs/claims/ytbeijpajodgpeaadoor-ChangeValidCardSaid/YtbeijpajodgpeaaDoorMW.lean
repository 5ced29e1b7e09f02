/- The plain law of a list's reading: one change after the other; what the readers that go on too far say. -/
import Derived.Test.YtbeijpajodgpeaaDoorM2
import Derived.Test.YtbeijpajodgpeaaDoorM1
namespace Go.Proofs.YtbeijpajodgpeaaDoor
open Go.RowKit
set_option linter.unusedSimpArgs false
set_option linter.unusedVariables false

/-- the answer of Encode: the bytes (the call's own) and the error -/
def REnc (w : World) (l : List Cg) (e : Ending) (w' : World) : Prop := ∃ A n c, e = .returned (.tuple #[.slice A n c, .int .i64 (ecE l)]) ∧ OwB w' w.heap.size 5 A n c (ecB l) ∧ Below w.heap.size w w'
theorem ecE_len {l : List Cg} (h : l.length < 1 ∨ 16 < l.length) : ecE l = 2 := by unfold ecE; rw [if_pos h]
theorem ecE_bad {l : List Cg} (h : ¬ (l.length < 1 ∨ 16 < l.length)) (h2 : fstE l ≠ 0) : ecE l = fstE l := by unfold ecE; rw [if_neg h, if_pos h2]
theorem ecE_big {l : List Cg} (h : ¬ (l.length < 1 ∨ 16 < l.length)) (h2 : fstE l = 0) (h3 : 65536 < (encL l).length) : ecE l = 3 := by unfold ecE; rw [if_neg h, if_neg (by simpa using h2), if_pos h3]
theorem ecE_yes {l : List Cg} (h : ¬ (l.length < 1 ∨ 16 < l.length)) (h2 : fstE l = 0) (h3 : ¬ 65536 < (encL l).length) : ecE l = 0 := by unfold ecE; rw [if_neg h, if_neg (by simpa using h2), if_neg h3]
theorem ecB_no {l : List Cg} (h : ecE l ≠ 0) : ecB l = [] := by unfold ecB; rw [if_neg h]
theorem ecB_yes {l : List Cg} (h : ecE l = 0) : ecB l = encL l := by unfold ecB; rw [if_pos h]
theorem ecE_cases (l : List Cg) : ecE l = 0 ∨ ecE l = 2 ∨ ecE l = 3 ∨ ecE l = 7 := by
  have hf : ∀ l : List Cg, fstE l = 0 ∨ fstE l = 2 ∨ fstE l = 3 ∨ fstE l = 7 := by
    intro l
    induction l with
    | nil => exact Or.inl rfl
    | cons a r ih =>
      unfold fstE
      split
      · exact ih
      · exact cv_range a
  unfold ecE
  have := hf l
  repeat' split
  all_goals omega
/-- what Decode answers -/
def dcL (b : List UInt8) : List Cg := (dc b).getD []
def dcE (b : List UInt8) : Int := if (dc b).isSome = true then 0 else 7
theorem dc_none_of_pL {b : List UInt8} (h : pL b = none) : dc b = none := by unfold dc; rw [h]; rfl
theorem dc_some_of {b l : List UInt8} {L : List Cg} (h : pL b = some (L, l)) : dc b = if ecE L = 0 ∧ encL L = b then some L else none := by unfold dc; rw [h]; rfl
theorem dcE_none {b : List UInt8} (h : dc b = none) : dcE b = 7 := by unfold dcE; rw [h]; rfl
theorem dcL_none {b : List UInt8} (h : dc b = none) : dcL b = [] := by unfold dcL; rw [h]; rfl
theorem dcE_some {b : List UInt8} {L : List Cg} (h : dc b = some L) : dcE b = 0 := by unfold dcE; rw [h]; rfl
theorem dcL_some {b : List UInt8} {L : List Cg} (h : dc b = some L) : dcL b = L := by unfold dcL; rw [h]; rfl
theorem dc_ok {b : List UInt8} {L : List Cg} (h : dc b = some L) : ecE L = 0 ∧ encL L = b := by
  unfold dc at h
  cases hp : pL b with
  | none => rw [hp] at h; cases h
  | some p =>
    rw [hp] at h
    simp only [Option.bind_some] at h
    split at h
    · rename_i hh; injection h with h; rw [← h]; exact hh
    · cases h
theorem dcL_cv (b : List UInt8) : ∀ c ∈ dcL b, cv c = 0 := by
  intro c hc
  cases hd : dc b with
  | none => rw [dcL_none hd] at hc; cases hc
  | some L =>
    rw [dcL_some hd] at hc
    exact (ecE_ok (dc_ok hd).1).1 c hc
theorem pL_big {b : List UInt8} {v : Nat} (h : ∀ q, (some b : Option (List UInt8)).bind pNum = some q → v = q.1) (hv : 16 < v) : pL b = none := by
  simp only [Option.bind_some] at h
  unfold pL
  cases hh : pNum b with
  | none => rfl
  | some p =>
    have := h p hh
    simp only [Option.bind_some]
    rw [if_neg (by omega)]
theorem pL_start {b : List UInt8} {v : Nat} (h : ∀ q, (some b : Option (List UInt8)).bind pNum = some q → v = q.1) (hv : ¬ 16 < v) : pL b = ((((some b : Option (List UInt8)).bind pNum).map (·.2)).bind (pCs v)).map fun b => ([] ++ b.1, b.2) := by
  simp only [Option.bind_some] at h
  unfold pL
  simp only [Option.bind_some]
  cases hh : pNum b with
  | none => rfl
  | some p =>
    have := h p hh
    subst this
    simp only [Option.bind_some, Option.map_some]
    rw [if_pos (by omega)]
    simp
/-- one change more -/
theorem pCs_next {s s' : Option (List UInt8)} {m : Nat} {L : List Cg} {c : Cg} (hs : s' = (s.bind pCg).map (·.2)) (hr : ∀ q, s.bind pCg = some q → c = q.1) :
    (s.bind (pCs (m + 1))).map (fun b => (L ++ b.1, b.2)) = (s'.bind (pCs m)).map fun b => ((L ++ [c]) ++ b.1, b.2) := by
  subst hs
  cases s with
  | none => rfl
  | some l =>
    simp only [Option.bind_some, pCs] at hr ⊢
    cases ha : pCg l with
    | none => rfl
    | some a =>
      have := hr a ha
      simp only [Option.bind_some, Option.map_some]
      cases pCs m a.2 with
      | none => rfl
      | some b => simp [this]
theorem pCs_fail {s : Option (List UInt8)} {m : Nat} (h : s.bind pCg = none) : s.bind (pCs (m + 1)) = none := by
  cases s with
  | none => rfl
  | some l =>
    simp only [Option.bind_some, pCs] at h ⊢
    rw [h]; rfl
/-- a list with a change that is not valid has no encoding -/
theorem ecE_doomed {L : List Cg} (h : ∃ c ∈ L, cv c ≠ 0) : ecE L ≠ 0 := by
  intro e
  obtain ⟨c, hc, hn⟩ := h
  exact hn ((ecE_ok e).1 c hc)
end Go.Proofs.YtbeijpajodgpeaaDoor
/- Made changes: valid, and small; what is valid lies within its types (plain). -/
namespace Go.Proofs.YtbeijpajodgpeaaDoor
set_option linter.unusedSimpArgs false
set_option linter.unusedVariables false

/-- a change that may be made -/
structure MC (c : Cg) : Prop where
  ok : cv c = 0
  tx : c.tx.size ≤ 400
  hl : c.hs.length ≤ 3
  hr : ∀ r ∈ c.hs, r.tx.size ≤ 400
theorem rvwf_of {i : Nat} {r : Rv} (h : RvOk i r) (hi : i ≤ 1000) : RvWf r := by
  have h1 := h.num
  have h2 := h.sq
  have h3 := h.us
  have h4 := h.nt
  have h5 := h.tx
  have h6 := h.m0
  have h7 := h.m1
  have hm : (8192 : Nat) ≤ maxLen := by unfold maxLen; omega
  exact ⟨WalkArith.wf_i64 (by omega), by omega, by omega, by omega, WalkArith.wf_i64 (by omega), WalkArith.wf_i64 (by omega)⟩
theorem hs_rv {c : Cg} (h : cv c = 0) : ∀ j r, c.hs[j]? = some r → RvOk j r ∧ j < 40 := by
  obtain ⟨hv, hf, hr, hb, hhb⟩ := cv_ok h
  intro j r hj
  cases e : fH c.kd with
  | true =>
    have hh := (EncF.of h).h e
    have h2 := hst_rv hh.1 hh.2 j r hj
    obtain ⟨h3, h4, _⟩ := hst_all hh.1
    obtain ⟨hlt, _⟩ := List.getElem?_eq_some_iff.1 hj
    exact ⟨h2, by omega⟩
  | false =>
    simp only [frm, e, Bool.and_eq_true, Bool.or_eq_true, decide_eq_true_eq] at hf
    have : c.hs = [] := List.length_eq_zero_iff.1 (by simpa using hf.2)
    rw [this] at hj
    simp at hj
theorem cgwf_of_cv {c : Cg} (h : cv c = 0) : CgWf c := by
  have hk := cv_kind h
  have hE := EncF.of h
  obtain ⟨hv, hf, hr, hb, hhb⟩ := cv_ok h
  simp only [frm, Bool.and_eq_true, Bool.or_eq_true, decide_eq_true_eq] at hf
  obtain ⟨⟨⟨⟨⟨⟨f1, f2⟩, f3⟩, f4⟩, f5⟩, f6⟩, f7⟩ := hf
  have h1 := hE.us
  have h2 := hE.nt
  have h3 := hE.tx
  have hm : (8192 : Nat) ≤ maxLen := by unfold maxLen; omega
  have ht : 0 ≤ c.ts ∧ c.ts < 6 ∧ c.tn.size ≤ 100 := by
    rcases f3 with e | e
    · exact hE.t e
    · omega
  have ho : 0 ≤ c.os ∧ c.os < 6 ∧ c.on.size ≤ 100 := by
    rcases f4 with e | e
    · exact hE.o e
    · omega
  have hn : 0 ≤ c.n ∧ c.n ≤ 1073741824 := by
    rcases f6 with e | e
    · exact hE.n e
    · omega
  refine ⟨WalkArith.wf_i64 (by omega), by omega, by omega, WalkArith.wf_i64 (by omega), by omega, WalkArith.wf_i64 (by omega), by omega, by omega, WalkArith.wf_i64 (by omega), fun r hr => ?_⟩
  obtain ⟨j, hj, e⟩ := List.mem_iff_getElem.1 hr
  obtain ⟨g1, g2⟩ := hs_rv h j r (by rw [List.getElem?_eq_getElem hj, e])
  exact rvwf_of g1 (by omega)
theorem dcL_wf (b : List UInt8) : ∀ c ∈ dcL b, CgWf c := fun c hc => cgwf_of_cv (dcL_cv b c hc)
theorem iff_len (b : Bool) (l : List UInt8) : (iff' b l).length ≤ l.length := by
  unfold iff'
  split <;> simp
theorem encR_small {i : Nat} {r : Rv} (h : RvOk i r) (ht : r.tx.size ≤ 400) : (encR r).length ≤ 700 := by
  have h3 := h.us
  have h4 := h.nt
  have h6 := h.m0
  have h7 := h.m1
  have e1 := txt_len (s := r.us) (by omega)
  have e2 := txt_len (s := r.nt) (by omega)
  have e3 := txt_len (s := r.tx) (by omega)
  have e4 := nmb_len 5 r.mi.toNat (by omega)
  unfold encR
  simp only [List.length_append]
  omega
theorem encH_small : ∀ L : List Rv, (∀ r ∈ L, (encR r).length ≤ 700) → (encH L).length ≤ 700 * L.length
  | [], _ => by simp [encH]
  | r :: R, h => by
    have h1 := h r (by simp)
    have h2 := encH_small R fun q hq => h q (by simp [hq])
    have e : encH (r :: R) = encR r ++ encH R := by simp [encH]
    rw [e, List.length_append, List.length_cons]
    omega
theorem encC_small {c : Cg} (h : MC c) : (encC c).length ≤ 4000 := by
  have hE := EncF.of h.ok
  have hk := cv_kind h.ok
  have hl := h.hl
  have hH := encH_small c.hs (fun r hr => by
    obtain ⟨j, hj, e⟩ := List.mem_iff_getElem.1 hr
    exact encR_small (hs_rv h.ok j r (by rw [List.getElem?_eq_getElem hj, e])).1 (h.hr r hr))
  have h1 := hE.us
  have h2 := hE.nt
  have h3 := h.tx
  have e0 := nmb_len 5 c.kd.toNat (by omega)
  have e1 := txt_len (s := c.us) (by omega)
  have e2 := txt_len (s := c.nt) (by omega)
  have e3 := txt_len (s := c.tx) (by omega)
  have e4 : (iff' (fT c.kd) (ttl c.ts c.tn)).length ≤ 120 := by
    cases e : fT c.kd with
    | false => simp [iff']
    | true =>
      have ht := hE.t e
      have q1 := txt_len (s := c.tn) (by omega)
      have q2 := nmb_len 5 c.ts.toNat (by omega)
      simp only [iff', if_true, ttl, List.length_append]
      omega
  have e5 : (iff' (fO c.kd) (ttl c.os c.on)).length ≤ 120 := by
    cases e : fO c.kd with
    | false => simp [iff']
    | true =>
      have ht := hE.o e
      have q1 := txt_len (s := c.on) (by omega)
      have q2 := nmb_len 5 c.os.toNat (by omega)
      simp only [iff', if_true, ttl, List.length_append]
      omega
  have e6 : (iff' (fK c.kd) (nmb c.n.toNat)).length ≤ 6 := by
    cases e : fK c.kd with
    | false => simp [iff']
    | true =>
      have ht := hE.n e
      have q2 := nmb_len 5 c.n.toNat (by omega)
      simp only [iff', if_true]
      omega
  have e7 := nmb_len 5 c.hs.length (by omega)
  have i1 := iff_len (fU c.kd) (txt c.us)
  have i2 := iff_len (fN c.kd) (txt c.nt)
  have i3 := iff_len (fN c.kd) (txt c.tx)
  have i4 := iff_len (fH c.kd) (nmb c.hs.length ++ encH c.hs)
  rw [List.length_append] at i4
  unfold encC
  simp only [List.length_append]
  omega
theorem flat_small : ∀ L : List Cg, (∀ c ∈ L, MC c) → (L.flatMap encC).length ≤ 4000 * L.length
  | [], _ => by simp
  | c :: R, h => by
    have h1 := encC_small (h c (by simp))
    have h2 := flat_small R fun q hq => h q (by simp [hq])
    rw [List.flatMap_cons, List.length_append, List.length_cons]
    omega
theorem MC.list {L : List Cg} (h : ∀ c ∈ L, MC c) (h1 : 1 ≤ L.length) (h2 : L.length ≤ 4) : ecE L = 0 := by
  have hf := flat_small L h
  refine ecE_yes (by omega) (fstE_of fun c hc => (h c hc).ok) ?_
  have := nmb_len 5 L.length (by omega)
  unfold encL
  rw [List.length_append]
  omega
end Go.Proofs.YtbeijpajodgpeaaDoor
