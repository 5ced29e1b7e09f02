/- What is read of frames that a crash has cut off. -/
import Derived.Test.YtaagmiidapammaaJ15
namespace Go.Proofs.Ytaagmiidapammaa
open Go.RowKit
set_option linter.unusedSimpArgs false
set_option linter.unusedVariables false

/-- the bytes that frames take -/
def szF (L : List (List UInt8)) : Nat := (framesP L 1).length
theorem framesP_size (L : List (List UInt8)) (s t : Nat) : (framesP L s).length = (framesP L t).length := by
  induction L generalizing s t with
  | nil => rfl
  | cons d r ih => rw [framesP, framesP, List.length_append, List.length_append, frameB_length, frameB_length, ih (s + 1) (t + 1)]
theorem framesP_append (L R : List (List UInt8)) (s : Nat) : framesP (L ++ R) s = framesP L s ++ framesP R (s + L.length) := by
  induction L generalizing s with
  | nil => simp [framesP]
  | cons d t ih => rw [List.cons_append, framesP, framesP, ih, List.append_assoc, List.length_cons]; congr 3; omega
theorem szF_succ {L : List (List UInt8)} {k : Nat} {d : List UInt8} (h : L[k]? = some d) : szF (L.take (k + 1)) = szF (L.take k) + 16 + d.length := by
  rw [szF, framesP_take 1 h, List.length_append, frameB_length, szF]; omega
theorem szF_zero (L : List (List UInt8)) : szF (L.take 0) = 0 := by simp [szF, framesP]
/-- how many frames fit within M bytes -/
def fitN : List (List UInt8) → Nat → Nat
  | [], _ => 0
  | d :: t, M => if 16 + d.length ≤ M then fitN t (M - (16 + d.length)) + 1 else 0
theorem fitN_le (L : List (List UInt8)) (M : Nat) : fitN L M ≤ L.length := by
  induction L generalizing M with
  | nil => simp [fitN]
  | cons d t ih => rw [fitN]; split <;> simp; exact ih _
theorem fitN_sz (L : List (List UInt8)) (M : Nat) : szF (L.take (fitN L M)) ≤ M ∧ ∀ d, L[fitN L M]? = some d → M < szF (L.take (fitN L M)) + 16 + d.length := by
  induction L generalizing M with
  | nil => simp [fitN, szF, framesP]
  | cons d t ih =>
    rw [fitN]
    split
    · rename_i h
      obtain ⟨h1, h2⟩ := ih (M - (16 + d.length))
      have e : szF ((d :: t).take (fitN t (M - (16 + d.length)) + 1)) = 16 + d.length + szF (t.take (fitN t (M - (16 + d.length)))) := by
        rw [List.take_succ_cons, szF, framesP, List.length_append, frameB_length, szF, framesP_size _ (1 + 1) 1]
      rw [e]
      refine ⟨by omega, fun x hx => ?_⟩
      rw [List.getElem?_cons_succ] at hx
      have := h2 x hx
      omega
    · rename_i h
      refine ⟨by rw [szF_zero]; omega, fun x hx => ?_⟩
      simp at hx
      subst hx
      rw [szF_zero]
      omega
/-- the loop that counts them -/
theorem fitN_step {L : List (List UInt8)} {k M : Nat} (hk : k ≤ fitN L M) : (k < fitN L M → ∃ d, L[k]? = some d ∧ szF (L.take k) + 16 + d.length ≤ M) ∧ (k = fitN L M → ∀ d, L[k]? = some d → M < szF (L.take k) + 16 + d.length) := by
  refine ⟨fun h => ?_, fun h => by subst h; exact (fitN_sz L M).2⟩
  have hl := fitN_le L M
  have hkl : k < L.length := by omega
  refine ⟨L[k], List.getElem?_eq_getElem hkl, ?_⟩
  rw [← szF_succ (List.getElem?_eq_getElem hkl)]
  refine Nat.le_trans ?_ (fitN_sz L M).1
  have e : L.take (k + 1) = (L.take (fitN L M)).take (k + 1) := by rw [List.take_take, Nat.min_eq_left (by omega)]
  conv => rhs; rw [← List.take_append_drop (k + 1) (L.take (fitN L M))]
  rw [e, szF, szF, framesP_append, List.length_append]
  omega

def cutB (b : List UInt8) (M : Nat) (ch : Bool) (y : UInt8) : List UInt8 := if ch = true then (b.take M).set (M - 1) y else b.take M
theorem cutB_length {b : List UInt8} {M : Nat} {ch : Bool} {y : UInt8} (hM : M ≤ b.length) : (cutB b M ch y).length = M := by
  unfold cutB; split <;> simp <;> omega
theorem cutB_split {p r : List UInt8} {M : Nat} {ch : Bool} {y : UInt8} (hM : p.length ≤ M) (h : ch = true → p.length < M) : cutB (p ++ r) M ch y = p ++ cutB r (M - p.length) ch y := by
  unfold cutB
  have e : (p ++ r).take M = p ++ r.take (M - p.length) := by
    rw [List.take_append, List.take_of_length_le hM]
  split
  · rename_i hc
    have := h hc
    rw [e, List.set_append_right _ _ (by omega)]
    congr 2
    omega
  · exact e

theorem nx_partial (s j : Nat) (d r : List UInt8) (ch : Bool) (y : UInt8) (hd : d.length ≤ 65536) (hj : j < 16 + d.length) : nxE (cutB (frameB s d ++ r) j ch y) ≠ 0 := by
  have hlen : (cutB (frameB s d ++ r) j ch y).length = j := cutB_length (by rw [List.length_append, frameB_length]; omega)
  by_cases h16 : j < 16
  · rw [nxE, if_pos (by omega)]; omega
  · have h4 : (cutB (frameB s d ++ r) j ch y).take 4 = (frameB s d ++ r).take 4 := by
      unfold cutB
      split
      · rw [set_take_lo y (by omega), List.take_take, Nat.min_eq_left (by omega)]
      · rw [List.take_take, Nat.min_eq_left (by omega)]
    have hn : nLen (cutB (frameB s d ++ r) j ch y) = d.length := by
      rw [nLen, h4]
      exact nLen_frame s d r hd
    rw [nxE, hn, hlen, if_neg (by omega), if_neg (by omega), if_pos (by omega)]
    omega

def fitC (L : List (List UInt8)) (M : Nat) (ch : Bool) : Nat := if 0 < fitN L M ∧ szF (L.take (fitN L M)) = M ∧ ch = true then fitN L M - 1 else fitN L M
theorem crash_scan (L : List (List UInt8)) (M : Nat) (ch : Bool) (y : UInt8) (hd : ∀ d ∈ L, d.length ≤ 200) (hl : L.length ≤ 20) (hM : M ≤ (framesP L 1).length) (hM1 : ch = true → 1 ≤ M) (hy : ch = true → y ≠ (framesP L 1).getD (M - 1) 0) :
    scn (cutB (framesP L 1) M ch y) 1 = (recs (L.take (fitC L M ch)) 1, szF (L.take (fitC L M ch))) := by
  have hle := fitN_le L M
  obtain ⟨hs1, hs2⟩ := fitN_sz L M
  have hfc : fitC L M ch ≤ fitN L M := by unfold fitC; split <;> omega
  generalize hn1 : fitC L M ch = n1 at *
  have hsplit : framesP L 1 = framesP (L.take n1) 1 ++ framesP (L.drop n1) (1 + n1) := by
    conv => lhs; rw [← List.take_append_drop n1 L]
    rw [framesP_append, List.length_take, Nat.min_eq_left (by omega)]
  have hle1 : szF (L.take n1) ≤ szF (L.take (fitN L M)) := by
    have e : L.take n1 = (L.take (fitN L M)).take n1 := by rw [List.take_take, Nat.min_eq_left (by omega)]
    conv => rhs; rw [← List.take_append_drop n1 (L.take (fitN L M))]
    rw [e, szF, szF, framesP_append, List.length_append]
    omega
  have key : (ch = true → szF (L.take n1) < M) ∧ nxE (cutB (framesP (L.drop n1) (1 + n1)) (M - szF (L.take n1)) ch y) ≠ 0 := by
    by_cases hc : 0 < fitN L M ∧ szF (L.take (fitN L M)) = M ∧ ch = true
    · have e1 : n1 = fitN L M - 1 := by rw [← hn1, fitC, if_pos hc]
      obtain ⟨c1, c2, c3⟩ := hc
      have hk : n1 < L.length := by omega
      have hg := List.getElem?_eq_getElem hk
      have e2 := szF_succ hg
      rw [show n1 + 1 = fitN L M by omega, c2] at e2
      have hdl := hd _ (List.getElem_mem hk)
      refine ⟨fun _ => by omega, ?_⟩
      have e3 : L.drop n1 = L[n1] :: L.drop (n1 + 1) := List.drop_eq_getElem_cons hk
      rw [e3, framesP]
      have e4 : M - szF (L.take n1) = 16 + L[n1].length := by omega
      have e5 : cutB (frameB (1 + n1) L[n1] ++ framesP (L.drop (n1 + 1)) (1 + n1 + 1)) (M - szF (L.take n1)) ch y = (frameB (1 + n1) L[n1]).set (15 + L[n1].length) y := by
        unfold cutB
        rw [if_pos c3, e4, List.take_left' (frameB_length _ _)]
        congr 1
        omega
      rw [e5, nx_changed (1 + n1) L[n1] (15 + L[n1].length) y (by omega) (by omega) (by omega) ?_]
      · omega
      · have h7 := hy c3
        rw [hsplit, e3, framesP, List.getD_eq_getElem?_getD, List.getElem?_append_right (by show szF (L.take n1) ≤ _; omega), show M - 1 - (framesP (L.take n1) 1).length = 15 + L[n1].length by show M - 1 - szF (L.take n1) = _; omega,
          List.getElem?_append_left (by rw [frameB_length]; omega), ← List.getD_eq_getElem?_getD] at h7
        exact h7
    · have e1 : n1 = fitN L M := by rw [← hn1, fitC, if_neg hc]
      rw [← e1] at hs1 hs2 hc
      rcases Nat.lt_or_ge (szF (L.take n1)) M with hlt | hge
      · have hk : n1 < L.length := by
          rcases Nat.lt_or_ge n1 L.length with h8 | h8
          · exact h8
          · exfalso
            rw [List.take_of_length_le h8] at hlt
            unfold szF at hlt
            omega
        refine ⟨fun _ => hlt, ?_⟩
        have h9 := hs2 _ (List.getElem?_eq_getElem hk)
        have hdl := hd _ (List.getElem_mem hk)
        have e3 : L.drop n1 = L[n1] :: L.drop (n1 + 1) := List.drop_eq_getElem_cons hk
        rw [e3, framesP]
        exact nx_partial _ _ _ _ _ _ (by omega) (by omega)
      · have e2 : szF (L.take n1) = M := by omega
        have hch : ch = false := by
          cases hcc : ch with
          | false => rfl
          | true =>
            exfalso
            rcases Nat.eq_zero_or_pos n1 with h0 | h0
            · rw [h0, szF_zero] at e2
              have := hM1 hcc
              omega
            · exact hc ⟨h0, e2, hcc⟩
        refine ⟨(fun h => by rw [hch] at h; cases h), ?_⟩
        rw [e2, Nat.sub_self, hch]
        simp [cutB]
        decide
  have hcs : cutB (framesP L 1) M ch y = framesP (L.take n1) 1 ++ cutB (framesP (L.drop n1) (1 + n1)) (M - szF (L.take n1)) ch y := by
    conv => lhs; rw [hsplit]
    exact cutB_split (by show szF (L.take n1) ≤ M; omega) key.1
  rw [hcs]
  have h3 := scn_frames (L.take n1) 1 (cutB (framesP (L.drop n1) (1 + n1)) (M - szF (L.take n1)) ch y) (fun x hx => by have := hd x (List.mem_of_mem_take hx); omega) (by omega) (by rw [List.length_take]; omega)
  rw [scn_no (b := cutB (framesP (L.drop n1) (1 + n1)) (M - szF (L.take n1)) ch y) (fun h => key.2 h.1)] at h3
  rw [show ((1 : Nat) : Int) = 1 from rfl] at h3
  rw [h3]
  simp [szF]


/-- what a crash leaves -/
theorem crash_uni (A : Option Addr) (n c S : Nat) (l : List UInt8) (keep sp : Int) (hl : n = l.length) (hS : S ≤ n) (hn : n ≤ 10000) :
    ∃ (M : Nat) (ch : Bool) (y : UInt8), S ≤ M ∧ M ≤ n ∧ (ch = true ↔ (S < M ∧ sp % 256 ≠ 0)) ∧ (ch = true → y ≠ l.getD (M - 1) 0) ∧
      ∀ W : World, RdB W A n c l → Calls Try.prog 23 #[.agg #[.slice A n c, .int .i64 (S : Int)], .int .i64 keep, .int .i64 sp] W (RDisk W (cutB l M ch y) M) := by
  have hv : validB n (S : Int) = true := by simp [validB]; omega
  have hK : 0 ≤ crK n S keep := by unfold crK; omega
  obtain ⟨K, hK⟩ := Int.eq_ofNat_of_zero_le hK
  cases K with
  | zero =>
    refine ⟨S, false, 0, Nat.le_refl _, hS, by simp, by simp, fun W hW => ?_⟩
    have := rcrash_zero A n c S l keep sp W hW hv hK
    simpa [cutB] using this
  | succ K =>
    have hkn : S + K + 1 ≤ n := by unfold crK at hK; omega
    have hl8 := low8_toNat sp
    by_cases h0 : sp % 256 = 0
    · refine ⟨S + K + 1, false, 0, by omega, hkn, by simp [h0], by simp, fun W hW => ?_⟩
      have := rcrash_pos A n c S K l keep sp W hW hv hK
      have e0 : low8 sp = 0 := by apply UInt8.toNat_inj.1; rw [h0] at hl8; show _ = 0; omega
      have e1 : (l.take (S + K + 1)).set (S + K) (l.getD (S + K) 0 ^^^ low8 sp) = l.take (S + K + 1) := by
        rw [e0, UInt8.xor_zero]
        apply List.ext_getElem?
        intro i
        by_cases hi : S + K = i
        · subst hi
          rw [List.getElem?_set_self (by rw [List.length_take]; omega), List.getElem?_take, if_pos (by omega), List.getD_eq_getElem?_getD, List.getElem?_eq_getElem (by omega)]
          rfl
        · rw [List.getElem?_set_ne hi]
      rw [e1] at this
      simpa [cutB] using this
    · refine ⟨S + K + 1, true, l.getD (S + K) 0 ^^^ low8 sp, by omega, hkn, by simp [h0]; omega, fun _ => ?_, fun W hW => ?_⟩
      · rw [show S + K + 1 - 1 = S + K by omega]
        refine xor_ne _ _ (fun h6 => h0 ?_)
        rw [h6] at hl8
        simpa using hl8.symm
      · have := rcrash_pos A n c S K l keep sp W hW hv hK
        have e : cutB l (S + K + 1) true (l.getD (S + K) 0 ^^^ low8 sp) = (l.take (S + K + 1)).set (S + K) (l.getD (S + K) 0 ^^^ low8 sp) := by simp [cutB]
        rw [e]
        exact this

/-- Open at what a crash has left -/
theorem open_left (A : Option Addr) (M c : Nat) (l : List UInt8) (L : List (List UInt8)) (k p : Nat) (w : World) (hr : RdB w A M c l) (hM : M ≤ 10000) (h : scn l 1 = (recs (L.take k) 1, p)) (hk : k ≤ L.length) :
    Calls Try.prog 24 #[.agg #[.slice A M c, .int .i64 (M : Int)]] w (Ret w fun v w' => ∃ A1 c1 A2 c2, v = .tuple #[.agg #[.slice A1 p c1, .int .i64 (p : Int)], .slice A2 k c2] ∧ RdR RecR 2 w' A2 k c2 (recs (L.take k) 1)) := by
  have hp : opP l = p := by rw [opP_scn, h]
  have hR : opR l = recs (L.take k) 1 := by rw [opR_scn, h]
  have hle := opP_le l
  refine (open_yes A M c l M w hr (by simp [validB]; omega)).mono ?_
  rintro e w' ⟨v, rfl, ⟨A1, n1, c1, A2, n2, c2, rfl, h1, h2⟩, hb⟩
  have e1 : n1 = p := by rw [h1.len, List.length_take]; omega
  have e2 : n2 = k := by rw [h2.len, hR, recs_length, List.length_take]; omega
  rw [hR] at h2
  subst e1 e2
  exact ⟨_, rfl, ⟨A1, c1, A2, c2, by rw [hp], h2⟩, hb⟩


set_option maxRecDepth 100000 in
set_option maxHeartbeats 6400000 in
theorem jcrash_walk (C : Option Addr) (mc cc : Nat) (L : List (List UInt8)) (sure keep sp : Int) (w : World) (hrl : RdBB w C mc cc L) :
    Calls Try.prog 8 #[.slice C mc cc, .int .i64 sure, .int .i64 keep, .int .i64 sp] w fun e w' => e = .returned (.bool true) ∧ Below w.heap.size w w' := by
  have hA := Lib.hid (awake_law w)
  cases hfew : fewB L with
  | false =>
    go_enter Try.func8, Try.ntmps8
    go_wp2_with (first | (go_at_call 20; go_must ((refine (few_any C mc cc L _ ?_).mono ?_); (focus (refine RdBB.below hrl ?_; (refine bel_out ?_; (focus (repeat' first | (with_reducible refine bel_refl ?_) | with_reducible assumption | with_reducible refine bel_drew ?_ | with_reducible refine bel_drewN _ ?_ | with_reducible refine bel_alloc _ ?_ | with_reducible refine bel_set ?_ _ ?_ | (with_reducible apply bel_call; with_reducible assumption) | (with_reducible apply bel_owg; with_reducible assumption; (focus omega)) | with_reducible exact Nat.le_refl _ | omega | (simp; done) | (simp; omega)))))); rintro e W1 ⟨rfl, rfl⟩)) | (go_at_call 11; refine (hA.out _ ?_).mono ?_; (refine bel_out ?_; (focus (repeat' first | (with_reducible refine bel_refl ?_) | with_reducible assumption | with_reducible refine bel_drew ?_ | with_reducible refine bel_drewN _ ?_ | with_reducible refine bel_alloc _ ?_ | with_reducible refine bel_set ?_ _ ?_ | (with_reducible apply bel_call; with_reducible assumption) | (with_reducible apply bel_owg; with_reducible assumption; (focus omega)) | with_reducible exact Nat.le_refl _ | omega | (simp; done) | (simp; omega)))); rintro e w9 ⟨rfl, hb9⟩))
    go_ret
    exact ⟨rfl, by (refine bel_out ?_; (focus (repeat' first | (with_reducible refine bel_refl ?_) | with_reducible assumption | with_reducible refine bel_drew ?_ | with_reducible refine bel_drewN _ ?_ | with_reducible refine bel_alloc _ ?_ | with_reducible refine bel_set ?_ _ ?_ | (with_reducible apply bel_call; with_reducible assumption) | (with_reducible apply bel_owg; with_reducible assumption; (focus omega)) | with_reducible exact Nat.le_refl _ | omega | (simp; done) | (simp; omega))))⟩
  | true =>
    have HW := Lib.hid hfew
    have hX := framesP_few hfew 1 L.length
    rw [List.take_length] at hX
    have hmc : mc ≤ 20 := by have := (fewB_le hfew).1; have := hrl.len; omega
    have HLm := Lib.hid hrl.len
    obtain ⟨S, hS, -, hR⟩ := round_natJ sure (((framesP L 1).length : Int) + 1) ((framesP L 1).length + 1) (by omega) (by omega) (by omega)
    have HR := Lib.hid hR
    clear hR
    go_enter Try.func8, Try.ntmps8
    go_wp2_with (first
      | (go_at_call 20; go_must ((refine (few_any C mc cc L _ ?_).mono ?_); (focus (refine RdBB.below hrl ?_; (refine bel_out ?_; (focus (repeat' first | (with_reducible refine bel_refl ?_) | with_reducible assumption | with_reducible refine bel_drew ?_ | with_reducible refine bel_drewN _ ?_ | with_reducible refine bel_alloc _ ?_ | with_reducible refine bel_set ?_ _ ?_ | (with_reducible apply bel_call; with_reducible assumption) | (with_reducible apply bel_owg; with_reducible assumption; (focus omega)) | with_reducible exact Nat.le_refl _ | omega | (simp; done) | (simp; omega)))))); rintro e W1 ⟨rfl, rfl⟩))
      | (go_at_call 21; go_must ((with_reducible refine (frames_any C mc cc L 1 1 rfl _ ?_ HW.out ?_ ?_).mono ?_); (focus (refine RdBB.below hrl ?_; (refine bel_out ?_; (focus (repeat' first | (with_reducible refine bel_refl ?_) | with_reducible assumption | with_reducible refine bel_drew ?_ | with_reducible refine bel_drewN _ ?_ | with_reducible refine bel_alloc _ ?_ | with_reducible refine bel_set ?_ _ ?_ | (with_reducible apply bel_call; with_reducible assumption) | (with_reducible apply bel_owg; with_reducible assumption; (focus omega)) | with_reducible exact Nat.le_refl _ | omega | (simp; done) | (simp; omega)))))); (focus omega); (focus omega); rintro e w1 ⟨v1, rfl, ⟨A1, n1, c1, rfl, ho1⟩, hb1⟩; have hn1 := ho1.len; subst hn1))
      | (go_at_call 17; go_must ((with_reducible refine (HR.out _).mono ?_); rintro e W1 ⟨rfl, rfl⟩; obtain ⟨M, ch, y, hSM, hMn, hch, hy, hcr⟩ := crash_uni A1 (framesP L 1).length c1 S (framesP L 1) keep sp rfl (by omega) (by omega); have HCR := Lib.hid hcr; have HCH := Lib.hid hch; have HY := Lib.hid hy; clear hcr hch hy))
      | (go_at_call 23; go_must ((refine (HCR.out _ ?_).mono ?_); (focus (apply OwB.rd; (focus (repeat' first | with_reducible assumption | (with_reducible apply OwB.drew) | (with_reducible apply OwB.drewN) | (with_reducible apply OwB.alloc) | (with_reducible apply OwB.stored) | (with_reducible apply OwB.set) | (with_reducible apply OwB.call; with_reducible assumption) | omega | (simp; done) | (simp; omega))))); rintro e w2 ⟨v2, rfl, ⟨A2, n2, c2, rfl, ho2⟩, hb2⟩; (have hn2 : n2 = M := (ho2.len.trans (cutB_length hMn))); subst hn2; obtain ⟨kc2, kf2, kz2, kh2⟩ := blk_cells hb2 (g := w1.heap.size) (t := 47) (cs := #[.slice A1 _ c1, .int .i64 (S : Int)]) (by (focus (repeat' first | with_reducible assumption | (with_reducible refine heap_drew ?_) | (with_reducible refine heap_drewN ?_) | (with_reducible refine heap_new ?_; focus (first | rfl | omega | (simp; done))) | (with_reducible refine heap_old ?_) | (with_reducible apply heap_near') | ((with_reducible show Array.setIfInBounds _ _ _ = _); rfl) | (with_reducible refine heap_far ?_ ?_; focus (first | omega | (simp; omega) | (simp; done))) | (with_reducible apply heap_grown; with_reducible assumption; (focus (first | omega | (simp; omega)))) | (with_reducible apply heap_call; with_reducible assumption)))))))
    have hbx : Below w2.heap.size w2 (w2.alloc (.cells #[.slice A2 n2 c2, .int .i64 n2] 47)) := (Below.refl _ _).alloc (Nat.le_refl _) _
    have hh11 : (w2.alloc (.cells #[.slice A2 n2 c2, .int .i64 n2] 47)).heap[w2.heap.size]? = some (.cells #[.slice A2 n2 c2, .int .i64 n2] 47 (0, 0)) := heap_new rfl
    have hh10 : (w2.alloc (.cells #[.slice A2 n2 c2, .int .i64 n2] 47)).heap[w1.heap.size]? = some (.cells #[.slice A1 (framesP L 1).length c1, .int .i64 (S : Int)] 47 (0, 0)) := by (focus (repeat' first | with_reducible assumption | (with_reducible refine heap_drew ?_) | (with_reducible refine heap_drewN ?_) | (with_reducible refine heap_new ?_; focus (first | rfl | omega | (simp; done))) | (with_reducible refine heap_old ?_) | (with_reducible apply heap_near') | ((with_reducible show Array.setIfInBounds _ _ _ = _); rfl) | (with_reducible refine heap_far ?_ ?_; focus (first | omega | (simp; omega) | (simp; done))) | (with_reducible apply heap_grown; with_reducible assumption; (focus (first | omega | (simp; omega)))) | (with_reducible apply heap_call; with_reducible assumption)))
    have hwx : Below w.heap.size w (w2.alloc (.cells #[.slice A2 n2 c2, .int .i64 n2] 47)) := by (refine bel_out ?_; (focus (repeat' first | (with_reducible refine bel_refl ?_) | with_reducible assumption | with_reducible refine bel_drew ?_ | with_reducible refine bel_drewN _ ?_ | with_reducible refine bel_alloc _ ?_ | with_reducible refine bel_set ?_ _ ?_ | (with_reducible apply bel_call; with_reducible assumption) | (with_reducible apply bel_owg; with_reducible assumption; (focus omega)) | with_reducible exact Nat.le_refl _ | omega | (simp; done) | (simp; omega))))
    have hrx : RdB (w2.alloc (.cells #[.slice A2 n2 c2, .int .i64 n2] 47)) A2 n2 c2 (cutB (framesP L 1) n2 ch y) := ho2.rd.alloc _
    clear kc2 kf2 kh2 kz2 hb1 hb2 hbx ho1 ho2
    generalize w2.alloc (.cells #[.slice A2 n2 c2, .int .i64 n2] 47) = wx at hh11 hh10 hwx hrx ⊢
    generalize w1.heap.size = g10 at *
    generalize w2.heap.size = g11 at *
    have hfl := fitN_le L n2
    have hrow : Hid (∀ k : Nat, k < mc → ∃ b off d A' c', C = some ⟨b, off, none⟩ ∧ b < w.heap.size ∧ L[k]? = some d ∧ d.length ≤ 200 ∧ w.cell? ⟨b, off + k, none⟩ = some (.slice A' d.length c') ∧ RdB w A' d.length c' d) := by
      intro k hk
      obtain ⟨b, off, e, hbb, hro⟩ := hrl.rows (by omega)
      have hkl : k < L.length := by have := HLm.out; omega
      obtain ⟨A', n', c', h1, h2⟩ := hro k _ (List.getElem?_eq_getElem hkl)
      have e2 := h2.len
      subst e2
      exact ⟨b, off, _, A', c', e, hbb, List.getElem?_eq_getElem hkl, (fewB_le HW.out).2 k _ (List.getElem?_eq_getElem hkl), h1, h2⟩
    have HSZ : Hid (∀ k : Nat, szF (L.take k) ≤ 4320) := fun k => framesP_few HW.out 1 k
    go_loopw [12, 13] (fun a b wr => ∃ k : Nat, k ≤ fitN L n2 ∧ a = .int .i64 k ∧ b = .int .i64 (szF (L.take k)) ∧ Below wx.heap.size wx wr) (fun a _ _ => mc - (intOf a).toNat)
    case atStart => exact ⟨0, Nat.zero_le _, rfl, by rw [szF_zero]; rfl, Below.refl _ _⟩
    case round =>
      obtain ⟨k, hk, rfl, rfl, hbr⟩ := hrel
      have hz := HSZ.out k
      have k11 := Blk.cell (heap_call hbr hh11)
      obtain ⟨hst1, hst2⟩ := fitN_step (L := L) (M := n2) hk
      by_cases hlt : k < fitN L n2
      · obtain ⟨d0, hd0, hfit⟩ := hst1 hlt
        have hkm : k < mc := by have := HLm.out; omega
        obtain ⟨b, off, d, A', c', rfl, hbb, hd, hd200, hcell0, hrd⟩ := hrow.out k hkm
        obtain rfl : d0 = d := by rw [hd0] at hd; injection hd
        have hcell := (hbr.cell (p := ⟨b, off + k, none⟩) (Nat.lt_of_lt_of_le hbb hwx.size)).trans ((hwx.cell (p := ⟨b, off + k, none⟩) hbb).trans hcell0)
        have HSU := Lib.hid (szF_succ hd0)
        clear hst1 hst2 hcell0 hrd hd hd0
        generalize szF (L.take k) = at0 at *
        generalize d0.length = nd at *
        have hg1 : decide ((k : Int) < (mc : Int)) = true := by simp; omega
        have hg2 : decide ((at0 : Int) + 16 + (nd : Int) ≤ (n2 : Int)) = true := by simp; omega
        have hi0 : (0 : Int) ≤ (k : Int) := by omega
        have hi1 : (k : Int) < (mc : Int) := by omega
        have hi2 : (at0 : Int) + 16 + (nd : Int) ≤ (n2 : Int) := by omega
        have hw1 : IntKind.i64.wrap ((at0 : Int) + 16) = (at0 : Int) + 16 := by rw [IntKind.wrap_i64]; omega
        have hw2 : IntKind.i64.wrap ((at0 : Int) + 16 + (nd : Int)) = (at0 : Int) + 16 + (nd : Int) := by rw [IntKind.wrap_i64]; omega
        have HM := Lib.hid (show mc - (k + 1) < mc - k by omega)
        go_wp2_with fail
        go_quiet (fail)
        clear hw1 hw2
        go_wp2
        go_roundw
        case rel => exact ⟨k + 1, by omega, by go_num, by rw [HSU.out]; go_num, below_drewN hbr _⟩
        case measure => simp [intOf]; exact HM.out
      · have hkf : k = fitN L n2 := by omega
        have hkm2 : k ≤ mc := by have := HLm.out; omega
        have hkL : k ≤ L.length := by omega
        have hcs0 := crash_scan L n2 ch y (few_small HW.out) (fewB_le HW.out).1 hMn (fun h => by have := HCH.out.1 h; omega) HY.out
        have k10 := Blk.cell (heap_call hbr hh10)
        have hand := and255 sp
        have hno : ∀ d0, L[k]? = some d0 → n2 < szF (L.take k) + 16 + d0.length := hst2 hkf
        have hfc : fitC L n2 ch = if 0 < k ∧ szF (L.take k) = n2 ∧ ch = true then k - 1 else k := by rw [fitC, ← hkf]
        have hways : (fitC L n2 ch = k ∧ (¬ (0 < (k : Int)) ∨ (0 < (k : Int) ∧ (((szF (L.take k) : Int) == (n2 : Int)) = false)) ∨ (0 < (k : Int) ∧ (((szF (L.take k) : Int) == (n2 : Int)) = true) ∧ ¬ ((S : Int) < (szF (L.take k) : Int))) ∨
            (0 < (k : Int) ∧ (((szF (L.take k) : Int) == (n2 : Int)) = true) ∧ ((S : Int) < (szF (L.take k) : Int)) ∧ ((sp % 256 != 0) = false)))) ∨
            (fitC L n2 ch = k - 1 ∧ 0 < (k : Int) ∧ (((szF (L.take k) : Int) == (n2 : Int)) = true) ∧ ((S : Int) < (szF (L.take k) : Int)) ∧ ((sp % 256 != 0) = true)) := by
          by_cases c1 : 0 < k
          · have c1' : 0 < (k : Int) := by omega
            by_cases c2 : szF (L.take k) = n2
            · have c2' : ((szF (L.take k) : Int) == (n2 : Int)) = true := by rw [c2]; simp
              by_cases c3 : S < n2
              · have c3' : (S : Int) < (szF (L.take k) : Int) := by omega
                by_cases c4 : sp % 256 = 0
                · have hc0 : ¬ ch = true := fun h => (HCH.out.1 h).2 c4
                  exact .inl ⟨by rw [hfc, if_neg (fun h => hc0 h.2.2)], .inr (.inr (.inr ⟨c1', c2', c3', by rw [c4]; rfl⟩))⟩
                · have hc0 : ch = true := HCH.out.2 ⟨c3, c4⟩
                  exact .inr ⟨by rw [hfc, if_pos ⟨c1, c2, hc0⟩], c1', c2', c3', by rw [bne_iff_ne]; exact c4⟩
              · have hc0 : ¬ ch = true := fun h => c3 (HCH.out.1 h).1
                exact .inl ⟨by rw [hfc, if_neg (fun h => hc0 h.2.2)], .inr (.inr (.inl ⟨c1', c2', by omega⟩))⟩
            · exact .inl ⟨by rw [hfc, if_neg (fun h => c2 h.2.1)], .inr (.inl ⟨c1', by rw [beq_eq_false_iff_ne]; omega⟩)⟩
          · exact .inl ⟨by rw [hfc, if_neg (fun h => c1 h.1)], .inl (by omega)⟩
        have hg0 : (decide (k < mc) = true ∧ ∃ b off d A' c', C = some ⟨b, off, none⟩ ∧ wr.cell? ⟨b, off + k, none⟩ = some (.slice A' d c') ∧ (k : Int) < (mc : Int) ∧ d ≤ 200 ∧ decide ((szF (L.take k) : Int) + 16 + (d : Int) ≤ (n2 : Int)) = false) ∨ decide (k < mc) = false := by
          by_cases hkm : k < mc
          · obtain ⟨b, off, d, A', c', e6, hbb, hd, hd200, hcell0, hrd⟩ := hrow.out k hkm
            have := hno d hd
            exact .inl ⟨by simp; omega, b, off, d.length, A', c', e6, (hbr.cell (p := ⟨b, off + k, none⟩) (Nat.lt_of_lt_of_le hbb hwx.size)).trans ((hwx.cell (p := ⟨b, off + k, none⟩) hbb).trans hcell0), by omega, hd200, by simp; omega⟩
          · exact .inr (by simp; omega)
        have hi0 : (0 : Int) ≤ (k : Int) := by omega
        clear hst1 hst2 hno hfc hlt hkf hk
        rcases hways with ⟨hfk, hways⟩ | ⟨hfk, hc1, hc2, hc3, hc4⟩
        · rw [hfk] at hcs0
          have HCS := Lib.hid hcs0
          clear hcs0 hfk
          generalize szF (L.take k) = at0 at *
          have hw1 : IntKind.i64.wrap ((at0 : Int) + 16) = (at0 : Int) + 16 := by rw [IntKind.wrap_i64]; omega
          rcases hg0 with ⟨hg1, b, off, nd, A', c', rfl, hcell, hi1, hnd, hg2⟩ | hg1
          · have hw2 : IntKind.i64.wrap ((at0 : Int) + 16 + (nd : Int)) = (at0 : Int) + 16 + (nd : Int) := by rw [IntKind.wrap_i64]; omega
            go_wp2_with fail
            go_quiet (fail)
            clear hw1 hw2 hg1 hg2
            rcases hways with h1 | ⟨h1, h2⟩ | ⟨h1, h2, h3⟩ | ⟨h1, h2, h3, h4⟩
            all_goals
              go_wp2_with (go_at_call 24; go_must ((refine (open_left A2 n2 c2 (cutB (framesP L 1) n2 ch y) L k at0 _ ?_ ?_ HCS.out ?_).mono ?_); (focus (refine RdB.below hrx ?_; (refine bel_out ?_; (focus (repeat' first | (with_reducible refine bel_refl ?_) | with_reducible assumption | with_reducible refine bel_drew ?_ | with_reducible refine bel_drewN _ ?_ | with_reducible refine bel_alloc _ ?_ | with_reducible refine bel_set ?_ _ ?_ | (with_reducible apply bel_call; with_reducible assumption) | (with_reducible apply bel_owg; with_reducible assumption; (focus omega)) | with_reducible exact Nat.le_refl _ | omega | (simp; done) | (simp; omega)))))); (focus omega); (focus omega); rintro e w4 ⟨v4, rfl, ⟨A4, c4, A5, c5, rfl, hrr⟩, hb4⟩))
              have hrr2 : RdR RecR 2 (w4.alloc (.cells #[.slice A4 at0 c4, .int .i64 (at0 : Int)] 47)) A5 k c5 (recs (L.take k) 1) := RdR.below RecR.stay hrr ((Below.refl _ _).alloc (Nat.le_refl _) _)
              have hwz : Below w.heap.size w (w4.alloc (.cells #[.slice A4 at0 c4, .int .i64 (at0 : Int)] 47)) := by (refine bel_out ?_; (focus (repeat' first | (with_reducible refine bel_refl ?_) | with_reducible assumption | with_reducible refine bel_drew ?_ | with_reducible refine bel_drewN _ ?_ | with_reducible refine bel_alloc _ ?_ | with_reducible refine bel_set ?_ _ ?_ | (with_reducible apply bel_call; with_reducible assumption) | (with_reducible apply bel_owg; with_reducible assumption; (focus omega)) | with_reducible exact Nat.le_refl _ | omega | (simp; done) | (simp; omega))))
              clear hrr hb4
              generalize w4.alloc (.cells #[.slice A4 at0 c4, .int .i64 (at0 : Int)] 47) = wz at hrr2 hwz ⊢
              go_loopw [16] (fun i wr2 => ∃ m : Nat, m ≤ k ∧ i = .int .i64 m ∧ Below wz.heap.size wz wr2) (fun i _ => k - (intOf i).toNat)
              case atStart => exact ⟨0, Nat.zero_le _, rfl, Below.refl _ _⟩
              case round =>
                obtain ⟨m, hm, rfl, hbz⟩ := hrel
                by_cases hml : m < k
                · obtain ⟨b2, off2, e5, hb2', hrc⟩ := RecR.row hrr2 (by omega)
                  subst e5
                  obtain ⟨s1, d1, A6, n6, c6, q1, q2, q3, q4⟩ := hrc m hml
                  obtain ⟨b, off, d, A', c', e6, hbb, hd, hd200, hcell0, hrd⟩ := hrow.out m (by omega)
                  first | subst e6 | (injection e6 with e6; injection e6 with e6a e6b; replace e6a := e6a.symm; replace e6b := e6b.symm; subst e6a; subst e6b)
                  rw [recs_get, List.getElem?_take, if_pos hml, hd] at q1
                  simp only [Option.map_some, Option.some.injEq, Prod.mk.injEq] at q1
                  obtain ⟨q5, q6⟩ := q1
                  subst q6
                  have q2' : wz.cell? ⟨b2, off2 + m * 2, none⟩ = some (.int .i64 ((m : Int) + 1)) := by rw [q2, ← q5]; congr 2; omega
                  clear q2 q5 hrc
                  have g1 := (hbz.cell (p := ⟨b2, off2 + m * 2, none⟩) hb2').trans q2'
                  have g2 := (hbz.cell (p := ⟨b2, off2 + m * 2 + 1, none⟩) hb2').trans q3
                  have g3 := (hbz.cell (p := ⟨b, off + m, none⟩) (Nat.lt_of_lt_of_le hbb hwz.size)).trans ((hwz.cell (p := ⟨b, off + m, none⟩) hbb).trans hcell0)
                  clear q2' q3 hcell0
                  have HK : Hid (∀ W : World, Bel wr.heap.size wr W → W.cell? ⟨b2, off2 + m * 2, none⟩ = some (.int .i64 ((m : Int) + 1)) ∧ W.cell? ⟨b2, off2 + m * 2 + 1, none⟩ = some (.slice A6 n6 c6) ∧ W.cell? ⟨b, off + m, none⟩ = some (.slice A' d.length c')) := by
                    intro W hW
                    have hz1 := hbz.size
                    have hz2 := hwz.size
                    exact ⟨(hW.2.cell (p := ⟨b2, off2 + m * 2, none⟩) (by show b2 < _; omega)).trans g1, (hW.2.cell (p := ⟨b2, off2 + m * 2 + 1, none⟩) (by show b2 < _; omega)).trans g2, (hW.2.cell (p := ⟨b, off + m, none⟩) (by show b < _; omega)).trans g3⟩
                  have hrdz : RdB wr A' d.length c' d := (hrd.below hwz).below hbz
                  have hrez : RdB wr A6 n6 c6 d := q4.below hbz
                  have hi0 : (0 : Int) ≤ (m : Int) := by omega
                  have hi1 : (m : Int) < (k : Int) := by omega
                  have hi2 : (m : Int) < (mc : Int) := by omega
                  have hw1 : IntKind.i64.wrap ((m : Int) + 1) = (m : Int) + 1 := by rw [IntKind.wrap_i64]; omega
                  have HME := Lib.hid (show k - (m + 1) < k - m by omega)
                  go_wp2_with fail
                  go_region_held3 (fun W => W.cell? ⟨b2, off2 + m * 2, none⟩ = some (.int .i64 ((m : Int) + 1)) ∧ W.cell? ⟨b2, off2 + m * 2 + 1, none⟩ = some (.slice A6 n6 c6) ∧ W.cell? ⟨b, off + m, none⟩ = some (.slice A' d.length c'))
                    ((refine HK.out _ ?_; (focus (repeat' first | (with_reducible refine bel_refl ?_) | with_reducible assumption | with_reducible refine bel_drew ?_ | with_reducible refine bel_drewN _ ?_ | with_reducible refine bel_alloc _ ?_ | with_reducible refine bel_set ?_ _ ?_ | (with_reducible apply bel_call; with_reducible assumption) | (with_reducible apply bel_owg; with_reducible assumption; (focus omega)) | with_reducible exact Nat.le_refl _ | omega | (simp; done) | (simp; omega))); done))
                    ((go_at_call 16; go_must ((refine (same_true A6 n6 c6 A' d.length c' d d _ ?_ ?_ rfl).mono ?_); (focus (refine RdB.below hrez ?_; (refine bel_out ?_; (focus (repeat' first | (with_reducible refine bel_refl ?_) | with_reducible assumption | with_reducible refine bel_drew ?_ | with_reducible refine bel_drewN _ ?_ | with_reducible refine bel_alloc _ ?_ | with_reducible refine bel_set ?_ _ ?_ | (with_reducible apply bel_call; with_reducible assumption) | (with_reducible apply bel_owg; with_reducible assumption; (focus omega)) | with_reducible exact Nat.le_refl _ | omega | (simp; done) | (simp; omega)))))); (focus (refine RdB.below hrdz ?_; (refine bel_out ?_; (focus (repeat' first | (with_reducible refine bel_refl ?_) | with_reducible assumption | with_reducible refine bel_drew ?_ | with_reducible refine bel_drewN _ ?_ | with_reducible refine bel_alloc _ ?_ | with_reducible refine bel_set ?_ _ ?_ | (with_reducible apply bel_call; with_reducible assumption) | (with_reducible apply bel_owg; with_reducible assumption; (focus omega)) | with_reducible exact Nat.le_refl _ | omega | (simp; done) | (simp; omega)))))); rintro e w7 ⟨rfl, hb7⟩)))
                  clear hw1
                  go_wp2
                  go_roundw
                  case rel => exact ⟨m + 1, by omega, by go_num, by (refine bel_out ?_; (focus (repeat' first | (with_reducible refine bel_refl ?_) | with_reducible assumption | with_reducible refine bel_drew ?_ | with_reducible refine bel_drewN _ ?_ | with_reducible refine bel_alloc _ ?_ | with_reducible refine bel_set ?_ _ ?_ | (with_reducible apply bel_call; with_reducible assumption) | (with_reducible apply bel_owg; with_reducible assumption; (focus omega)) | with_reducible exact Nat.le_refl _ | omega | (simp; done) | (simp; omega))))⟩
                  case measure => simp [intOf]; exact HME.out
                · go_wp2_with (go_at_call 11; refine (hA.out _ ?_).mono ?_; (refine bel_out ?_; (focus (repeat' first | (with_reducible refine bel_refl ?_) | with_reducible assumption | with_reducible refine bel_drew ?_ | with_reducible refine bel_drewN _ ?_ | with_reducible refine bel_alloc _ ?_ | with_reducible refine bel_set ?_ _ ?_ | (with_reducible apply bel_call; with_reducible assumption) | (with_reducible apply bel_owg; with_reducible assumption; (focus omega)) | with_reducible exact Nat.le_refl _ | omega | (simp; done) | (simp; omega)))); rintro e w9 ⟨rfl, hb9⟩)
                  go_ret
                  exact ⟨rfl, by (refine bel_out ?_; (focus (repeat' first | (with_reducible refine bel_refl ?_) | with_reducible assumption | with_reducible refine bel_drew ?_ | with_reducible refine bel_drewN _ ?_ | with_reducible refine bel_alloc _ ?_ | with_reducible refine bel_set ?_ _ ?_ | (with_reducible apply bel_call; with_reducible assumption) | (with_reducible apply bel_owg; with_reducible assumption; (focus omega)) | with_reducible exact Nat.le_refl _ | omega | (simp; done) | (simp; omega))))⟩

          · go_wp2_with fail
            go_quiet (fail)
            clear hw1 hg1
            rcases hways with h1 | ⟨h1, h2⟩ | ⟨h1, h2, h3⟩ | ⟨h1, h2, h3, h4⟩
            all_goals
              go_wp2_with (go_at_call 24; go_must ((refine (open_left A2 n2 c2 (cutB (framesP L 1) n2 ch y) L k at0 _ ?_ ?_ HCS.out ?_).mono ?_); (focus (refine RdB.below hrx ?_; (refine bel_out ?_; (focus (repeat' first | (with_reducible refine bel_refl ?_) | with_reducible assumption | with_reducible refine bel_drew ?_ | with_reducible refine bel_drewN _ ?_ | with_reducible refine bel_alloc _ ?_ | with_reducible refine bel_set ?_ _ ?_ | (with_reducible apply bel_call; with_reducible assumption) | (with_reducible apply bel_owg; with_reducible assumption; (focus omega)) | with_reducible exact Nat.le_refl _ | omega | (simp; done) | (simp; omega)))))); (focus omega); (focus omega); rintro e w4 ⟨v4, rfl, ⟨A4, c4, A5, c5, rfl, hrr⟩, hb4⟩))
              have hrr2 : RdR RecR 2 (w4.alloc (.cells #[.slice A4 at0 c4, .int .i64 (at0 : Int)] 47)) A5 k c5 (recs (L.take k) 1) := RdR.below RecR.stay hrr ((Below.refl _ _).alloc (Nat.le_refl _) _)
              have hwz : Below w.heap.size w (w4.alloc (.cells #[.slice A4 at0 c4, .int .i64 (at0 : Int)] 47)) := by (refine bel_out ?_; (focus (repeat' first | (with_reducible refine bel_refl ?_) | with_reducible assumption | with_reducible refine bel_drew ?_ | with_reducible refine bel_drewN _ ?_ | with_reducible refine bel_alloc _ ?_ | with_reducible refine bel_set ?_ _ ?_ | (with_reducible apply bel_call; with_reducible assumption) | (with_reducible apply bel_owg; with_reducible assumption; (focus omega)) | with_reducible exact Nat.le_refl _ | omega | (simp; done) | (simp; omega))))
              clear hrr hb4
              generalize w4.alloc (.cells #[.slice A4 at0 c4, .int .i64 (at0 : Int)] 47) = wz at hrr2 hwz ⊢
              go_loopw [16] (fun i wr2 => ∃ m : Nat, m ≤ k ∧ i = .int .i64 m ∧ Below wz.heap.size wz wr2) (fun i _ => k - (intOf i).toNat)
              case atStart => exact ⟨0, Nat.zero_le _, rfl, Below.refl _ _⟩
              case round =>
                obtain ⟨m, hm, rfl, hbz⟩ := hrel
                by_cases hml : m < k
                · obtain ⟨b2, off2, e5, hb2', hrc⟩ := RecR.row hrr2 (by omega)
                  subst e5
                  obtain ⟨s1, d1, A6, n6, c6, q1, q2, q3, q4⟩ := hrc m hml
                  obtain ⟨b, off, d, A', c', e6, hbb, hd, hd200, hcell0, hrd⟩ := hrow.out m (by omega)
                  first | subst e6 | (injection e6 with e6; injection e6 with e6a e6b; replace e6a := e6a.symm; replace e6b := e6b.symm; subst e6a; subst e6b)
                  rw [recs_get, List.getElem?_take, if_pos hml, hd] at q1
                  simp only [Option.map_some, Option.some.injEq, Prod.mk.injEq] at q1
                  obtain ⟨q5, q6⟩ := q1
                  subst q6
                  have q2' : wz.cell? ⟨b2, off2 + m * 2, none⟩ = some (.int .i64 ((m : Int) + 1)) := by rw [q2, ← q5]; congr 2; omega
                  clear q2 q5 hrc
                  have g1 := (hbz.cell (p := ⟨b2, off2 + m * 2, none⟩) hb2').trans q2'
                  have g2 := (hbz.cell (p := ⟨b2, off2 + m * 2 + 1, none⟩) hb2').trans q3
                  have g3 := (hbz.cell (p := ⟨b, off + m, none⟩) (Nat.lt_of_lt_of_le hbb hwz.size)).trans ((hwz.cell (p := ⟨b, off + m, none⟩) hbb).trans hcell0)
                  clear q2' q3 hcell0
                  have HK : Hid (∀ W : World, Bel wr.heap.size wr W → W.cell? ⟨b2, off2 + m * 2, none⟩ = some (.int .i64 ((m : Int) + 1)) ∧ W.cell? ⟨b2, off2 + m * 2 + 1, none⟩ = some (.slice A6 n6 c6) ∧ W.cell? ⟨b, off + m, none⟩ = some (.slice A' d.length c')) := by
                    intro W hW
                    have hz1 := hbz.size
                    have hz2 := hwz.size
                    exact ⟨(hW.2.cell (p := ⟨b2, off2 + m * 2, none⟩) (by show b2 < _; omega)).trans g1, (hW.2.cell (p := ⟨b2, off2 + m * 2 + 1, none⟩) (by show b2 < _; omega)).trans g2, (hW.2.cell (p := ⟨b, off + m, none⟩) (by show b < _; omega)).trans g3⟩
                  have hrdz : RdB wr A' d.length c' d := (hrd.below hwz).below hbz
                  have hrez : RdB wr A6 n6 c6 d := q4.below hbz
                  have hi0 : (0 : Int) ≤ (m : Int) := by omega
                  have hi1 : (m : Int) < (k : Int) := by omega
                  have hi2 : (m : Int) < (mc : Int) := by omega
                  have hw1 : IntKind.i64.wrap ((m : Int) + 1) = (m : Int) + 1 := by rw [IntKind.wrap_i64]; omega
                  have HME := Lib.hid (show k - (m + 1) < k - m by omega)
                  go_wp2_with fail
                  go_region_held3 (fun W => W.cell? ⟨b2, off2 + m * 2, none⟩ = some (.int .i64 ((m : Int) + 1)) ∧ W.cell? ⟨b2, off2 + m * 2 + 1, none⟩ = some (.slice A6 n6 c6) ∧ W.cell? ⟨b, off + m, none⟩ = some (.slice A' d.length c'))
                    ((refine HK.out _ ?_; (focus (repeat' first | (with_reducible refine bel_refl ?_) | with_reducible assumption | with_reducible refine bel_drew ?_ | with_reducible refine bel_drewN _ ?_ | with_reducible refine bel_alloc _ ?_ | with_reducible refine bel_set ?_ _ ?_ | (with_reducible apply bel_call; with_reducible assumption) | (with_reducible apply bel_owg; with_reducible assumption; (focus omega)) | with_reducible exact Nat.le_refl _ | omega | (simp; done) | (simp; omega))); done))
                    ((go_at_call 16; go_must ((refine (same_true A6 n6 c6 A' d.length c' d d _ ?_ ?_ rfl).mono ?_); (focus (refine RdB.below hrez ?_; (refine bel_out ?_; (focus (repeat' first | (with_reducible refine bel_refl ?_) | with_reducible assumption | with_reducible refine bel_drew ?_ | with_reducible refine bel_drewN _ ?_ | with_reducible refine bel_alloc _ ?_ | with_reducible refine bel_set ?_ _ ?_ | (with_reducible apply bel_call; with_reducible assumption) | (with_reducible apply bel_owg; with_reducible assumption; (focus omega)) | with_reducible exact Nat.le_refl _ | omega | (simp; done) | (simp; omega)))))); (focus (refine RdB.below hrdz ?_; (refine bel_out ?_; (focus (repeat' first | (with_reducible refine bel_refl ?_) | with_reducible assumption | with_reducible refine bel_drew ?_ | with_reducible refine bel_drewN _ ?_ | with_reducible refine bel_alloc _ ?_ | with_reducible refine bel_set ?_ _ ?_ | (with_reducible apply bel_call; with_reducible assumption) | (with_reducible apply bel_owg; with_reducible assumption; (focus omega)) | with_reducible exact Nat.le_refl _ | omega | (simp; done) | (simp; omega)))))); rintro e w7 ⟨rfl, hb7⟩)))
                  clear hw1
                  go_wp2
                  go_roundw
                  case rel => exact ⟨m + 1, by omega, by go_num, by (refine bel_out ?_; (focus (repeat' first | (with_reducible refine bel_refl ?_) | with_reducible assumption | with_reducible refine bel_drew ?_ | with_reducible refine bel_drewN _ ?_ | with_reducible refine bel_alloc _ ?_ | with_reducible refine bel_set ?_ _ ?_ | (with_reducible apply bel_call; with_reducible assumption) | (with_reducible apply bel_owg; with_reducible assumption; (focus omega)) | with_reducible exact Nat.le_refl _ | omega | (simp; done) | (simp; omega))))⟩
                  case measure => simp [intOf]; exact HME.out
                · go_wp2_with (go_at_call 11; refine (hA.out _ ?_).mono ?_; (refine bel_out ?_; (focus (repeat' first | (with_reducible refine bel_refl ?_) | with_reducible assumption | with_reducible refine bel_drew ?_ | with_reducible refine bel_drewN _ ?_ | with_reducible refine bel_alloc _ ?_ | with_reducible refine bel_set ?_ _ ?_ | (with_reducible apply bel_call; with_reducible assumption) | (with_reducible apply bel_owg; with_reducible assumption; (focus omega)) | with_reducible exact Nat.le_refl _ | omega | (simp; done) | (simp; omega)))); rintro e w9 ⟨rfl, hb9⟩)
                  go_ret
                  exact ⟨rfl, by (refine bel_out ?_; (focus (repeat' first | (with_reducible refine bel_refl ?_) | with_reducible assumption | with_reducible refine bel_drew ?_ | with_reducible refine bel_drewN _ ?_ | with_reducible refine bel_alloc _ ?_ | with_reducible refine bel_set ?_ _ ?_ | (with_reducible apply bel_call; with_reducible assumption) | (with_reducible apply bel_owg; with_reducible assumption; (focus omega)) | with_reducible exact Nat.le_refl _ | omega | (simp; done) | (simp; omega))))⟩

        · obtain ⟨j, hjk⟩ : ∃ j, k = j + 1 := ⟨k - 1, by omega⟩
          rw [hfk, hjk, Nat.add_sub_cancel] at hcs0
          have HCS := Lib.hid hcs0
          obtain ⟨bj, offj, dj, Aj, cj, ej, hbbj, hdj, hdj200, hcellj0, hrdj⟩ := hrow.out j (by omega)
          have hcellj := (hbr.cell (p := ⟨bj, offj + j, none⟩) (Nat.lt_of_lt_of_le hbbj hwx.size)).trans ((hwx.cell (p := ⟨bj, offj + j, none⟩) hbbj).trans hcellj0)
          have hszj := szF_succ hdj
          rw [← hjk] at hszj
          have HKJ : Hid ((k : Int) - 1 = (j : Int)) := Lib.hid (by omega)
          have HSJ := Lib.hid (HSZ.out j)
          clear hcs0 hfk hcellj0 hrdj hdj
          generalize szF (L.take k) = at0 at *
          generalize szF (L.take j) = at1 at *
          generalize dj.length = ndj at *
          have hat : (at0 : Int) - (16 + (ndj : Int)) = (at1 : Int) := by omega
          have hat1 : at1 ≤ 4320 := by omega
          clear hszj
          have HAT := Lib.hid hat
          have hj1 : (j : Int) < (mc : Int) := by omega
          have hj0 : (0 : Int) ≤ (j : Int) := by omega
          have hjm : j < mc := by omega
          have hjL : j ≤ L.length := by omega
          clear hjk
          have hw1 : IntKind.i64.wrap ((at0 : Int) + 16) = (at0 : Int) + 16 := by rw [IntKind.wrap_i64]; omega
          rcases hg0 with ⟨hg1, b, off, nd, A', c', rfl, hcell, hi1, hnd, hg2⟩ | hg1
          · have hw2 : IntKind.i64.wrap ((at0 : Int) + 16 + (nd : Int)) = (at0 : Int) + 16 + (nd : Int) := by rw [IntKind.wrap_i64]; omega
            injection ej with ej
            injection ej with ej1 ej2
            subst ej1 ej2
            clear hat
            go_wp2_with fail
            go_quiet (fail)
            have hat := HAT.out
            have hkj := HKJ.out
            clear hw1 hw2 hg1 hg2
            go_wp2_with (go_at_call 24; go_must ((refine (open_left A2 n2 c2 (cutB (framesP L 1) n2 ch y) L j at1 _ ?_ ?_ HCS.out ?_).mono ?_); (focus (refine RdB.below hrx ?_; (refine bel_out ?_; (focus (repeat' first | (with_reducible refine bel_refl ?_) | with_reducible assumption | with_reducible refine bel_drew ?_ | with_reducible refine bel_drewN _ ?_ | with_reducible refine bel_alloc _ ?_ | with_reducible refine bel_set ?_ _ ?_ | (with_reducible apply bel_call; with_reducible assumption) | (with_reducible apply bel_owg; with_reducible assumption; (focus omega)) | with_reducible exact Nat.le_refl _ | omega | (simp; done) | (simp; omega)))))); (focus omega); (focus omega); rintro e w4 ⟨v4, rfl, ⟨A4, c4, A5, c5, rfl, hrr⟩, hb4⟩))
            have hrr2 : RdR RecR 2 (w4.alloc (.cells #[.slice A4 at1 c4, .int .i64 (at1 : Int)] 47)) A5 j c5 (recs (L.take j) 1) := RdR.below RecR.stay hrr ((Below.refl _ _).alloc (Nat.le_refl _) _)
            have hwz : Below w.heap.size w (w4.alloc (.cells #[.slice A4 at1 c4, .int .i64 (at1 : Int)] 47)) := by (refine bel_out ?_; (focus (repeat' first | (with_reducible refine bel_refl ?_) | with_reducible assumption | with_reducible refine bel_drew ?_ | with_reducible refine bel_drewN _ ?_ | with_reducible refine bel_alloc _ ?_ | with_reducible refine bel_set ?_ _ ?_ | (with_reducible apply bel_call; with_reducible assumption) | (with_reducible apply bel_owg; with_reducible assumption; (focus omega)) | with_reducible exact Nat.le_refl _ | omega | (simp; done) | (simp; omega))))
            clear hrr hb4
            generalize w4.alloc (.cells #[.slice A4 at1 c4, .int .i64 (at1 : Int)] 47) = wz at hrr2 hwz ⊢
            go_loopw [16] (fun i wr2 => ∃ m : Nat, m ≤ j ∧ i = .int .i64 m ∧ Below wz.heap.size wz wr2) (fun i _ => j - (intOf i).toNat)
            case atStart => exact ⟨0, Nat.zero_le _, rfl, Below.refl _ _⟩
            case round =>
              obtain ⟨m, hm, rfl, hbz⟩ := hrel
              by_cases hml : m < j
              · obtain ⟨b2, off2, e5, hb2', hrc⟩ := RecR.row hrr2 (by omega)
                subst e5
                obtain ⟨s1, d1, A6, n6, c6, q1, q2, q3, q4⟩ := hrc m hml
                obtain ⟨b, off, d, A', c', e6, hbb, hd, hd200, hcell0, hrd⟩ := hrow.out m (by omega)
                first | subst e6 | (injection e6 with e6; injection e6 with e6a e6b; replace e6a := e6a.symm; replace e6b := e6b.symm; subst e6a; subst e6b)
                rw [recs_get, List.getElem?_take, if_pos hml, hd] at q1
                simp only [Option.map_some, Option.some.injEq, Prod.mk.injEq] at q1
                obtain ⟨q5, q6⟩ := q1
                subst q6
                have q2' : wz.cell? ⟨b2, off2 + m * 2, none⟩ = some (.int .i64 ((m : Int) + 1)) := by rw [q2, ← q5]; congr 2; omega
                clear q2 q5 hrc
                have g1 := (hbz.cell (p := ⟨b2, off2 + m * 2, none⟩) hb2').trans q2'
                have g2 := (hbz.cell (p := ⟨b2, off2 + m * 2 + 1, none⟩) hb2').trans q3
                have g3 := (hbz.cell (p := ⟨b, off + m, none⟩) (Nat.lt_of_lt_of_le hbb hwz.size)).trans ((hwz.cell (p := ⟨b, off + m, none⟩) hbb).trans hcell0)
                clear q2' q3 hcell0
                have HK : Hid (∀ W : World, Bel wr.heap.size wr W → W.cell? ⟨b2, off2 + m * 2, none⟩ = some (.int .i64 ((m : Int) + 1)) ∧ W.cell? ⟨b2, off2 + m * 2 + 1, none⟩ = some (.slice A6 n6 c6) ∧ W.cell? ⟨b, off + m, none⟩ = some (.slice A' d.length c')) := by
                  intro W hW
                  have hz1 := hbz.size
                  have hz2 := hwz.size
                  exact ⟨(hW.2.cell (p := ⟨b2, off2 + m * 2, none⟩) (by show b2 < _; omega)).trans g1, (hW.2.cell (p := ⟨b2, off2 + m * 2 + 1, none⟩) (by show b2 < _; omega)).trans g2, (hW.2.cell (p := ⟨b, off + m, none⟩) (by show b < _; omega)).trans g3⟩
                have hrdz : RdB wr A' d.length c' d := (hrd.below hwz).below hbz
                have hrez : RdB wr A6 n6 c6 d := q4.below hbz
                have hi0 : (0 : Int) ≤ (m : Int) := by omega
                have hi1 : (m : Int) < (j : Int) := by omega
                have hi2 : (m : Int) < (mc : Int) := by omega
                have hw1 : IntKind.i64.wrap ((m : Int) + 1) = (m : Int) + 1 := by rw [IntKind.wrap_i64]; omega
                have HME := Lib.hid (show j - (m + 1) < j - m by omega)
                go_wp2_with fail
                go_region_held3 (fun W => W.cell? ⟨b2, off2 + m * 2, none⟩ = some (.int .i64 ((m : Int) + 1)) ∧ W.cell? ⟨b2, off2 + m * 2 + 1, none⟩ = some (.slice A6 n6 c6) ∧ W.cell? ⟨b, off + m, none⟩ = some (.slice A' d.length c'))
                  ((refine HK.out _ ?_; (focus (repeat' first | (with_reducible refine bel_refl ?_) | with_reducible assumption | with_reducible refine bel_drew ?_ | with_reducible refine bel_drewN _ ?_ | with_reducible refine bel_alloc _ ?_ | with_reducible refine bel_set ?_ _ ?_ | (with_reducible apply bel_call; with_reducible assumption) | (with_reducible apply bel_owg; with_reducible assumption; (focus omega)) | with_reducible exact Nat.le_refl _ | omega | (simp; done) | (simp; omega))); done))
                  ((go_at_call 16; go_must ((refine (same_true A6 n6 c6 A' d.length c' d d _ ?_ ?_ rfl).mono ?_); (focus (refine RdB.below hrez ?_; (refine bel_out ?_; (focus (repeat' first | (with_reducible refine bel_refl ?_) | with_reducible assumption | with_reducible refine bel_drew ?_ | with_reducible refine bel_drewN _ ?_ | with_reducible refine bel_alloc _ ?_ | with_reducible refine bel_set ?_ _ ?_ | (with_reducible apply bel_call; with_reducible assumption) | (with_reducible apply bel_owg; with_reducible assumption; (focus omega)) | with_reducible exact Nat.le_refl _ | omega | (simp; done) | (simp; omega)))))); (focus (refine RdB.below hrdz ?_; (refine bel_out ?_; (focus (repeat' first | (with_reducible refine bel_refl ?_) | with_reducible assumption | with_reducible refine bel_drew ?_ | with_reducible refine bel_drewN _ ?_ | with_reducible refine bel_alloc _ ?_ | with_reducible refine bel_set ?_ _ ?_ | (with_reducible apply bel_call; with_reducible assumption) | (with_reducible apply bel_owg; with_reducible assumption; (focus omega)) | with_reducible exact Nat.le_refl _ | omega | (simp; done) | (simp; omega)))))); rintro e w7 ⟨rfl, hb7⟩)))
                clear hw1
                go_wp2
                go_roundw
                case rel => exact ⟨m + 1, by omega, by go_num, by (refine bel_out ?_; (focus (repeat' first | (with_reducible refine bel_refl ?_) | with_reducible assumption | with_reducible refine bel_drew ?_ | with_reducible refine bel_drewN _ ?_ | with_reducible refine bel_alloc _ ?_ | with_reducible refine bel_set ?_ _ ?_ | (with_reducible apply bel_call; with_reducible assumption) | (with_reducible apply bel_owg; with_reducible assumption; (focus omega)) | with_reducible exact Nat.le_refl _ | omega | (simp; done) | (simp; omega))))⟩
                case measure => simp [intOf]; exact HME.out
              · go_wp2_with (go_at_call 11; refine (hA.out _ ?_).mono ?_; (refine bel_out ?_; (focus (repeat' first | (with_reducible refine bel_refl ?_) | with_reducible assumption | with_reducible refine bel_drew ?_ | with_reducible refine bel_drewN _ ?_ | with_reducible refine bel_alloc _ ?_ | with_reducible refine bel_set ?_ _ ?_ | (with_reducible apply bel_call; with_reducible assumption) | (with_reducible apply bel_owg; with_reducible assumption; (focus omega)) | with_reducible exact Nat.le_refl _ | omega | (simp; done) | (simp; omega)))); rintro e w9 ⟨rfl, hb9⟩)
                go_ret
                exact ⟨rfl, by (refine bel_out ?_; (focus (repeat' first | (with_reducible refine bel_refl ?_) | with_reducible assumption | with_reducible refine bel_drew ?_ | with_reducible refine bel_drewN _ ?_ | with_reducible refine bel_alloc _ ?_ | with_reducible refine bel_set ?_ _ ?_ | (with_reducible apply bel_call; with_reducible assumption) | (with_reducible apply bel_owg; with_reducible assumption; (focus omega)) | with_reducible exact Nat.le_refl _ | omega | (simp; done) | (simp; omega))))⟩

          · subst ej
            clear hat
            go_wp2_with fail
            go_quiet (fail)
            have hat := HAT.out
            have hkj := HKJ.out
            clear hw1 hg1
            go_wp2_with (go_at_call 24; go_must ((refine (open_left A2 n2 c2 (cutB (framesP L 1) n2 ch y) L j at1 _ ?_ ?_ HCS.out ?_).mono ?_); (focus (refine RdB.below hrx ?_; (refine bel_out ?_; (focus (repeat' first | (with_reducible refine bel_refl ?_) | with_reducible assumption | with_reducible refine bel_drew ?_ | with_reducible refine bel_drewN _ ?_ | with_reducible refine bel_alloc _ ?_ | with_reducible refine bel_set ?_ _ ?_ | (with_reducible apply bel_call; with_reducible assumption) | (with_reducible apply bel_owg; with_reducible assumption; (focus omega)) | with_reducible exact Nat.le_refl _ | omega | (simp; done) | (simp; omega)))))); (focus omega); (focus omega); rintro e w4 ⟨v4, rfl, ⟨A4, c4, A5, c5, rfl, hrr⟩, hb4⟩))
            have hrr2 : RdR RecR 2 (w4.alloc (.cells #[.slice A4 at1 c4, .int .i64 (at1 : Int)] 47)) A5 j c5 (recs (L.take j) 1) := RdR.below RecR.stay hrr ((Below.refl _ _).alloc (Nat.le_refl _) _)
            have hwz : Below w.heap.size w (w4.alloc (.cells #[.slice A4 at1 c4, .int .i64 (at1 : Int)] 47)) := by (refine bel_out ?_; (focus (repeat' first | (with_reducible refine bel_refl ?_) | with_reducible assumption | with_reducible refine bel_drew ?_ | with_reducible refine bel_drewN _ ?_ | with_reducible refine bel_alloc _ ?_ | with_reducible refine bel_set ?_ _ ?_ | (with_reducible apply bel_call; with_reducible assumption) | (with_reducible apply bel_owg; with_reducible assumption; (focus omega)) | with_reducible exact Nat.le_refl _ | omega | (simp; done) | (simp; omega))))
            clear hrr hb4
            generalize w4.alloc (.cells #[.slice A4 at1 c4, .int .i64 (at1 : Int)] 47) = wz at hrr2 hwz ⊢
            go_loopw [16] (fun i wr2 => ∃ m : Nat, m ≤ j ∧ i = .int .i64 m ∧ Below wz.heap.size wz wr2) (fun i _ => j - (intOf i).toNat)
            case atStart => exact ⟨0, Nat.zero_le _, rfl, Below.refl _ _⟩
            case round =>
              obtain ⟨m, hm, rfl, hbz⟩ := hrel
              by_cases hml : m < j
              · obtain ⟨b2, off2, e5, hb2', hrc⟩ := RecR.row hrr2 (by omega)
                subst e5
                obtain ⟨s1, d1, A6, n6, c6, q1, q2, q3, q4⟩ := hrc m hml
                obtain ⟨b, off, d, A', c', e6, hbb, hd, hd200, hcell0, hrd⟩ := hrow.out m (by omega)
                first | subst e6 | (injection e6 with e6; injection e6 with e6a e6b; replace e6a := e6a.symm; replace e6b := e6b.symm; subst e6a; subst e6b)
                rw [recs_get, List.getElem?_take, if_pos hml, hd] at q1
                simp only [Option.map_some, Option.some.injEq, Prod.mk.injEq] at q1
                obtain ⟨q5, q6⟩ := q1
                subst q6
                have q2' : wz.cell? ⟨b2, off2 + m * 2, none⟩ = some (.int .i64 ((m : Int) + 1)) := by rw [q2, ← q5]; congr 2; omega
                clear q2 q5 hrc
                have g1 := (hbz.cell (p := ⟨b2, off2 + m * 2, none⟩) hb2').trans q2'
                have g2 := (hbz.cell (p := ⟨b2, off2 + m * 2 + 1, none⟩) hb2').trans q3
                have g3 := (hbz.cell (p := ⟨b, off + m, none⟩) (Nat.lt_of_lt_of_le hbb hwz.size)).trans ((hwz.cell (p := ⟨b, off + m, none⟩) hbb).trans hcell0)
                clear q2' q3 hcell0
                have HK : Hid (∀ W : World, Bel wr.heap.size wr W → W.cell? ⟨b2, off2 + m * 2, none⟩ = some (.int .i64 ((m : Int) + 1)) ∧ W.cell? ⟨b2, off2 + m * 2 + 1, none⟩ = some (.slice A6 n6 c6) ∧ W.cell? ⟨b, off + m, none⟩ = some (.slice A' d.length c')) := by
                  intro W hW
                  have hz1 := hbz.size
                  have hz2 := hwz.size
                  exact ⟨(hW.2.cell (p := ⟨b2, off2 + m * 2, none⟩) (by show b2 < _; omega)).trans g1, (hW.2.cell (p := ⟨b2, off2 + m * 2 + 1, none⟩) (by show b2 < _; omega)).trans g2, (hW.2.cell (p := ⟨b, off + m, none⟩) (by show b < _; omega)).trans g3⟩
                have hrdz : RdB wr A' d.length c' d := (hrd.below hwz).below hbz
                have hrez : RdB wr A6 n6 c6 d := q4.below hbz
                have hi0 : (0 : Int) ≤ (m : Int) := by omega
                have hi1 : (m : Int) < (j : Int) := by omega
                have hi2 : (m : Int) < (mc : Int) := by omega
                have hw1 : IntKind.i64.wrap ((m : Int) + 1) = (m : Int) + 1 := by rw [IntKind.wrap_i64]; omega
                have HME := Lib.hid (show j - (m + 1) < j - m by omega)
                go_wp2_with fail
                go_region_held3 (fun W => W.cell? ⟨b2, off2 + m * 2, none⟩ = some (.int .i64 ((m : Int) + 1)) ∧ W.cell? ⟨b2, off2 + m * 2 + 1, none⟩ = some (.slice A6 n6 c6) ∧ W.cell? ⟨b, off + m, none⟩ = some (.slice A' d.length c'))
                  ((refine HK.out _ ?_; (focus (repeat' first | (with_reducible refine bel_refl ?_) | with_reducible assumption | with_reducible refine bel_drew ?_ | with_reducible refine bel_drewN _ ?_ | with_reducible refine bel_alloc _ ?_ | with_reducible refine bel_set ?_ _ ?_ | (with_reducible apply bel_call; with_reducible assumption) | (with_reducible apply bel_owg; with_reducible assumption; (focus omega)) | with_reducible exact Nat.le_refl _ | omega | (simp; done) | (simp; omega))); done))
                  ((go_at_call 16; go_must ((refine (same_true A6 n6 c6 A' d.length c' d d _ ?_ ?_ rfl).mono ?_); (focus (refine RdB.below hrez ?_; (refine bel_out ?_; (focus (repeat' first | (with_reducible refine bel_refl ?_) | with_reducible assumption | with_reducible refine bel_drew ?_ | with_reducible refine bel_drewN _ ?_ | with_reducible refine bel_alloc _ ?_ | with_reducible refine bel_set ?_ _ ?_ | (with_reducible apply bel_call; with_reducible assumption) | (with_reducible apply bel_owg; with_reducible assumption; (focus omega)) | with_reducible exact Nat.le_refl _ | omega | (simp; done) | (simp; omega)))))); (focus (refine RdB.below hrdz ?_; (refine bel_out ?_; (focus (repeat' first | (with_reducible refine bel_refl ?_) | with_reducible assumption | with_reducible refine bel_drew ?_ | with_reducible refine bel_drewN _ ?_ | with_reducible refine bel_alloc _ ?_ | with_reducible refine bel_set ?_ _ ?_ | (with_reducible apply bel_call; with_reducible assumption) | (with_reducible apply bel_owg; with_reducible assumption; (focus omega)) | with_reducible exact Nat.le_refl _ | omega | (simp; done) | (simp; omega)))))); rintro e w7 ⟨rfl, hb7⟩)))
                clear hw1
                go_wp2
                go_roundw
                case rel => exact ⟨m + 1, by omega, by go_num, by (refine bel_out ?_; (focus (repeat' first | (with_reducible refine bel_refl ?_) | with_reducible assumption | with_reducible refine bel_drew ?_ | with_reducible refine bel_drewN _ ?_ | with_reducible refine bel_alloc _ ?_ | with_reducible refine bel_set ?_ _ ?_ | (with_reducible apply bel_call; with_reducible assumption) | (with_reducible apply bel_owg; with_reducible assumption; (focus omega)) | with_reducible exact Nat.le_refl _ | omega | (simp; done) | (simp; omega))))⟩
                case measure => simp [intOf]; exact HME.out
              · go_wp2_with (go_at_call 11; refine (hA.out _ ?_).mono ?_; (refine bel_out ?_; (focus (repeat' first | (with_reducible refine bel_refl ?_) | with_reducible assumption | with_reducible refine bel_drew ?_ | with_reducible refine bel_drewN _ ?_ | with_reducible refine bel_alloc _ ?_ | with_reducible refine bel_set ?_ _ ?_ | (with_reducible apply bel_call; with_reducible assumption) | (with_reducible apply bel_owg; with_reducible assumption; (focus omega)) | with_reducible exact Nat.le_refl _ | omega | (simp; done) | (simp; omega)))); rintro e w9 ⟨rfl, hb9⟩)
                go_ret
                exact ⟨rfl, by (refine bel_out ?_; (focus (repeat' first | (with_reducible refine bel_refl ?_) | with_reducible assumption | with_reducible refine bel_drew ?_ | with_reducible refine bel_drewN _ ?_ | with_reducible refine bel_alloc _ ?_ | with_reducible refine bel_set ?_ _ ?_ | (with_reducible apply bel_call; with_reducible assumption) | (with_reducible apply bel_owg; with_reducible assumption; (focus omega)) | with_reducible exact Nat.le_refl _ | omega | (simp; done) | (simp; omega))))⟩


end Go.Proofs.Ytaagmiidapammaa
