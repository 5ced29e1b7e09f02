/- The walks of SameRecords, few and frames. -/
import Derived.Test.YtaagmiidapammaaJ10
import Derived.Test.YtaagmiidapammaaWords5
namespace Go.Proofs.Ytaagmiidapammaa
open Go.RowKit
set_option linter.unusedSimpArgs false
set_option linter.unusedVariables false

theorem RecR.row {w : World} {A : Option Addr} {n c : Nat} {L : List (Nat × List UInt8)} (h : RdR RecR 2 w A n c L) (hn : 0 < n) :
    ∃ b off, A = some ⟨b, off, none⟩ ∧ b < w.heap.size ∧ ∀ k, k < n → ∃ s d A' n' c', L[k]? = some (s, d) ∧ w.cell? ⟨b, off + k * 2, none⟩ = some (.int .i64 ((s : Nat) : Int)) ∧ w.cell? ⟨b, off + k * 2 + 1, none⟩ = some (.slice A' n' c') ∧ RdB w A' n' c' d := by
  obtain ⟨b, off, e, hb, hc⟩ := h.opened (by omega) hn (fun xs hx h0 => by have := hx.1; rw [h0] at this; simp at this; omega)
  refine ⟨b, off, e, hb, fun k hk => ?_⟩
  have hk2 : k < L.length := by have := h.len; omega
  obtain ⟨cs, hR, hl, hcell⟩ := hc k _ (List.getElem?_eq_getElem hk2)
  obtain ⟨A', n', c', rfl, h1, h2⟩ := hR
  refine ⟨(L[k]'hk2).1, (L[k]'hk2).2, A', n', c', List.getElem?_eq_getElem hk2, ?_, ?_, h1⟩
  · have := hcell 0 _ rfl
    simpa using this
  · have := hcell 1 _ rfl
    simpa [Nat.add_assoc] using this

set_option maxHeartbeats 1600000 in
theorem samerecs_true (A : Option Addr) (n c : Nat) (A2 : Option Addr) (n2 c2 : Nat) (L : List (Nat × List UInt8)) (w : World) (hr : RdR RecR 2 w A n c L) (hr2 : RdR RecR 2 w A2 n2 c2 L) :
    Calls Try.prog 35 #[.slice A n c, .slice A2 n2 c2] w fun e w' => e = .returned (.bool true) ∧ Below w.heap.size w w' := by
  obtain rfl : n = n2 := hr.len.trans hr2.len.symm
  have hmax : n ≤ maxLen := Nat.le_trans hr.cap hr.max
  unfold maxLen at hmax
  rcases Nat.eq_zero_or_pos n with rfl | h0
  · go_enter Try.func35, Try.ntmps35
    go_wp2
    go_loopw [5] (fun i wr => i = .int .i64 0 ∧ Below w.heap.size w wr) (fun _ _ => 0)
    case atStart => exact ⟨rfl, Below.refl _ _⟩
    case round =>
      obtain ⟨rfl, hb⟩ := hrel
      go_wp2
      go_ret
      exact ⟨rfl, hb⟩
  · obtain ⟨b, off, rfl, hb, hc⟩ := RecR.row hr h0
    obtain ⟨b2, off2, rfl, hb2, hc2⟩ := RecR.row hr2 h0
    have HC := Lib.hid hc
    have HC2 := Lib.hid hc2
    clear hc hc2 hr hr2
    go_enter Try.func35, Try.ntmps35
    go_wp2
    go_loopw [5] (fun i wr => ∃ k : Nat, k ≤ n ∧ i = .int .i64 k ∧ Below w.heap.size w wr) (fun i _ => n - (intOf i).toNat)
    case atStart => exact ⟨0, Nat.zero_le _, rfl, Below.refl _ _⟩
    case round =>
      obtain ⟨k, hk, rfl, hbw⟩ := hrel
      by_cases hlt : k < n
      · obtain ⟨s, d, A1, n1, c1, e1, h1, h2, h3⟩ := HC.out k hlt
        obtain ⟨s', d', A3, n3, c3, e2, h4, h5, h6⟩ := HC2.out k hlt
        obtain ⟨rfl, rfl⟩ : s = s' ∧ d = d' := by rw [e1] at e2; injection e2 with e2; injection e2 with a1 a2; exact ⟨a1, a2⟩
        have g1 := (hbw.cell (p := ⟨b, off + k * 2, none⟩) hb).trans h1
        have g2 := (hbw.cell (p := ⟨b, off + k * 2 + 1, none⟩) hb).trans h2
        have g4 := (hbw.cell (p := ⟨b2, off2 + k * 2, none⟩) hb2).trans h4
        have g5 := (hbw.cell (p := ⟨b2, off2 + k * 2 + 1, none⟩) hb2).trans h5
        have hi0 : (0 : Int) ≤ (k : Int) := by omega
        have hi1 : (k : Int) < (n : Int) := by omega
        clear e1 e2 h1 h2 h4 h5
        have HK : Hid (∀ W : World, Bel wr.heap.size wr W → W.cell? ⟨b, off + k * 2, none⟩ = some (.int .i64 (s : Int)) ∧ W.cell? ⟨b, off + k * 2 + 1, none⟩ = some (.slice A1 n1 c1) ∧ W.cell? ⟨b2, off2 + k * 2, none⟩ = some (.int .i64 (s : Int)) ∧ W.cell? ⟨b2, off2 + k * 2 + 1, none⟩ = some (.slice A3 n3 c3)) := by
          intro W hW
          have hz := hbw.size
          exact ⟨(hW.2.cell (p := ⟨b, off + k * 2, none⟩) (by show b < _; omega)).trans g1, (hW.2.cell (p := ⟨b, off + k * 2 + 1, none⟩) (by show b < _; omega)).trans g2, (hW.2.cell (p := ⟨b2, off2 + k * 2, none⟩) (by show b2 < _; omega)).trans g4, (hW.2.cell (p := ⟨b2, off2 + k * 2 + 1, none⟩) (by show b2 < _; omega)).trans g5⟩
        go_wp2_with fail
        go_region_held3 (fun W => W.cell? ⟨b, off + k * 2, none⟩ = some (.int .i64 (s : Int)) ∧ W.cell? ⟨b, off + k * 2 + 1, none⟩ = some (.slice A1 n1 c1) ∧ W.cell? ⟨b2, off2 + k * 2, none⟩ = some (.int .i64 (s : Int)) ∧ W.cell? ⟨b2, off2 + k * 2 + 1, none⟩ = some (.slice A3 n3 c3))
          ((refine HK.out _ ?_; (focus (repeat' first | (with_reducible refine bel_refl ?_) | with_reducible assumption | with_reducible refine bel_drew ?_ | with_reducible refine bel_drewN _ ?_ | with_reducible refine bel_alloc _ ?_ | with_reducible refine bel_set ?_ _ ?_ | (with_reducible apply bel_call; with_reducible assumption) | (with_reducible apply bel_owg; with_reducible assumption; (focus omega)) | with_reducible exact Nat.le_refl _ | omega | (simp; done) | (simp; omega))); done))
          ((go_at_call 19; go_must ((refine (samerec_true A1 n1 c1 A3 n3 c3 d s _ ?_ ?_).mono ?_); (focus (refine RdB.below h3 ?_; (refine bel_out ?_; (focus (repeat' first | (with_reducible refine bel_refl ?_) | with_reducible assumption | with_reducible refine bel_drew ?_ | with_reducible refine bel_drewN _ ?_ | with_reducible refine bel_alloc _ ?_ | with_reducible refine bel_set ?_ _ ?_ | (with_reducible apply bel_call; with_reducible assumption) | (with_reducible apply bel_owg; with_reducible assumption; (focus omega)) | with_reducible exact Nat.le_refl _ | omega | (simp; done) | (simp; omega)))))); (focus (refine RdB.below h6 ?_; (refine bel_out ?_; (focus (repeat' first | (with_reducible refine bel_refl ?_) | with_reducible assumption | with_reducible refine bel_drew ?_ | with_reducible refine bel_drewN _ ?_ | with_reducible refine bel_alloc _ ?_ | with_reducible refine bel_set ?_ _ ?_ | (with_reducible apply bel_call; with_reducible assumption) | (with_reducible apply bel_owg; with_reducible assumption; (focus omega)) | with_reducible exact Nat.le_refl _ | omega | (simp; done) | (simp; omega)))))); rintro e w9 ⟨rfl, hb9⟩)))
        go_wp2
        go_roundw
        case rel => exact ⟨k + 1, by omega, by go_num, by (refine bel_out ?_; (focus (repeat' first | (with_reducible refine bel_refl ?_) | with_reducible assumption | with_reducible refine bel_drew ?_ | with_reducible refine bel_drewN _ ?_ | with_reducible refine bel_alloc _ ?_ | with_reducible refine bel_set ?_ _ ?_ | (with_reducible apply bel_call; with_reducible assumption) | (with_reducible apply bel_owg; with_reducible assumption; (focus omega)) | with_reducible exact Nat.le_refl _ | omega | (simp; done) | (simp; omega))))⟩
        case measure => simp [intOf]; omega
      · go_wp2
        go_ret
        exact ⟨rfl, hbw⟩


def fewB (L : List (List UInt8)) : Bool := decide (L.length ≤ 20) && L.all fun d => decide (d.length ≤ 200)
theorem fewB_le {L : List (List UInt8)} (h : fewB L = true) : L.length ≤ 20 ∧ ∀ (k : Nat) (d : List UInt8), L[k]? = some d → d.length ≤ 200 := by
  simp [fewB] at h
  exact ⟨h.1, fun k d hk => h.2 d (List.mem_of_getElem? hk)⟩
theorem fewB_no {L : List (List UInt8)} {k : Nat} {d : List UInt8} (h : L[k]? = some d) (hd : 200 < d.length) : fewB L = false := by
  cases hf : fewB L with
  | false => rfl
  | true => have := (fewB_le hf).2 k d h; omega
theorem fewB_big {L : List (List UInt8)} (h : 20 < L.length) : fewB L = false := by
  cases hf : fewB L with
  | false => rfl
  | true => have := (fewB_le hf).1; omega
theorem fewB_yes {L : List (List UInt8)} (h : L.length ≤ 20) (h2 : ∀ (k : Nat) (d : List UInt8), k < L.length → L[k]? = some d → d.length ≤ 200) : fewB L = true := by
  simp [fewB, h]
  intro d hd
  obtain ⟨k, hk⟩ := List.getElem?_of_mem hd
  have hlt : k < L.length := by
    rcases Nat.lt_or_ge k L.length with h3 | h3
    · exact h3
    · rw [List.getElem?_eq_none h3] at hk; cases hk
  exact h2 k d hlt hk

set_option maxHeartbeats 800000 in
theorem few_any (A : Option Addr) (n c : Nat) (L : List (List UInt8)) (w : World) (hr : RdBB w A n c L) :
    Calls Try.prog 20 #[.slice A n c] w fun e w' => e = .returned (.bool (fewB L)) ∧ w = w' := by
  have hmax : n ≤ maxLen := Nat.le_trans hr.cap hr.max
  unfold maxLen at hmax
  have HL := Lib.hid hr.len
  go_enter Try.func20, Try.ntmps20
  go_wp2
  go_loop [3] (fun i => ∃ k : Nat, k ≤ n ∧ k ≤ 20 ∧ i = .int .i64 k ∧ Hid (∀ j d, j < k → L[j]? = some d → d.length ≤ 200)) (fun i => n - (intOf i).toNat)
  case atStart => exact ⟨0, Nat.zero_le _, Nat.zero_le _, rfl, Lib.hid fun j d h => absurd h (by omega)⟩
  case round =>
    obtain ⟨k, hk, hk20, rfl, hall⟩ := hrel
    by_cases hlt : k < n
    · have hd1 : decide (k < n) = true := by simpa using hlt
      by_cases h20 : k < 20
      · have hd2 : decide ((k : Int) < 20) = true := by simp; omega
        obtain ⟨b, off, rfl, hb, hrow⟩ := hr.rows (by omega)
        have hkl : k < L.length := by have := HL.out; omega
        obtain ⟨A', n', c', hcell, hrd⟩ := hrow k _ (List.getElem?_eq_getElem hkl)
        have hnd := hrd.len
        have HLK := Lib.hid (List.getElem?_eq_getElem hkl)
        clear hrow hrd
        by_cases hbig : 200 < n'
        · have HF := Lib.hid (fewB_no HLK.out (by omega))
          clear hnd
          go_wp2
          go_ret
          exact ⟨by rw [HF.out]; rfl, rfl⟩
        · have hstep : Hid (∀ j d, j < k + 1 → L[j]? = some d → d.length ≤ 200) := Lib.hid (by
            intro j d hj hd
            rcases Nat.lt_or_ge j k with h1 | h1
            · exact hall.out j d h1 hd
            · obtain rfl : j = k := by omega
              rw [HLK.out] at hd
              injection hd with hd
              subst hd
              omega)
          clear hnd
          go_wp2
          go_round
          case rel => exact ⟨k + 1, by omega, by omega, by go_num, hstep⟩
          case measure => simp [intOf]; omega
      · have hd2 : decide ((k : Int) < 20) = false := by simp; omega
        have HF := Lib.hid (fewB_big (L := L) (by have := HL.out; omega))
        have hd3 : ¬ ((n : Int) ≤ 20) := by omega
        go_wp2
        go_ret
        exact ⟨by rw [HF.out]; rfl, rfl⟩
    · have hd1 : decide (k < n) = false := by simpa using hlt
      have HF := Lib.hid (fewB_yes (L := L) (by have := HL.out; omega) (fun j d hj hd => hall.out j d (by have := HL.out; omega) hd))
      have hd3 : ((n : Int) ≤ 20) := by omega
      go_wp2
      go_ret
      exact ⟨by rw [HF.out]; rfl, rfl⟩

/-- the frames of records with the numbers from s on -/
def framesP : List (List UInt8) → Nat → List UInt8
  | [], _ => []
  | d :: t, s => frameB s d ++ framesP t (s + 1)
theorem framesP_snoc (L : List (List UInt8)) (d : List UInt8) (s : Nat) : framesP (L ++ [d]) s = framesP L s ++ frameB (s + L.length) d := by
  induction L generalizing s with
  | nil => simp [framesP]
  | cons a t ih =>
    simp only [List.cons_append, framesP, ih, List.append_assoc, List.length_cons]
    congr 3
    omega
theorem framesP_take {L : List (List UInt8)} {k : Nat} {d : List UInt8} (s : Nat) (h : L[k]? = some d) : framesP (L.take (k + 1)) s = framesP (L.take k) s ++ frameB (s + k) d := by
  have hk : k < L.length := by
    rcases Nat.lt_or_ge k L.length with h3 | h3
    · exact h3
    · rw [List.getElem?_eq_none h3] at h; cases h
  rw [List.take_add_one, h]
  simp only [Option.toList_some]
  rw [framesP_snoc, List.length_take, Nat.min_eq_left (by omega)]
theorem framesP_len {L : List (List UInt8)} (h : ∀ d ∈ L, d.length ≤ 200) (s : Nat) : (framesP L s).length ≤ 216 * L.length := by
  induction L generalizing s with
  | nil => simp [framesP]
  | cons a t ih =>
    rw [framesP, List.length_append, frameB_length, List.length_cons]
    have h1 := h a List.mem_cons_self
    have h2 := ih (fun d hd => h d (List.mem_cons_of_mem _ hd)) (s + 1)
    omega
theorem framesP_few {L : List (List UInt8)} (h : fewB L = true) (s k : Nat) : (framesP (L.take k) s).length ≤ 4320 := by
  simp [fewB] at h
  have h1 := framesP_len (L := L.take k) (fun d hd => h.2 d (List.mem_of_mem_take hd)) s
  rw [List.length_take] at h1
  omega

set_option maxHeartbeats 1600000 in
theorem frames_any (A : Option Addr) (n c : Nat) (L : List (List UInt8)) (F : Int) (s : Nat) (hF : F = (s : Int)) (w : World) (hr : RdBB w A n c L) (hfew : fewB L = true) (hs1 : 1 ≤ s) (hs2 : s ≤ 1000) :
    Calls Try.prog 21 #[.slice A n c, .int .i64 F] w (ROwn w (framesP L s)) := by
  subst hF
  obtain ⟨i0, hi0, hz0', hz1', hz2'⟩ := u8_parts
  have hln : n ≤ 20 := by have := (fewB_le hfew).1; have := hr.len; omega
  have HL := Lib.hid hr.len
  have HW := Lib.hid hfew
  clear hfew
  go_enter Try.func21, Try.ntmps21
  go_wp2
  go_loopw [5, 6] (fun v i wr => ∃ (k : Nat) (Ao : Option Addr) (no co : Nat), k ≤ n ∧ i = .int .i64 k ∧ v = .slice Ao no co ∧ OwB wr w.heap.size 5 Ao no co (framesP (L.take k) s) ∧ Below w.heap.size w wr) (fun _ i _ => n - (intOf i).toNat)
  case atStart => exact ⟨0, none, 0, 0, Nat.zero_le _, rfl, rfl, by simpa [framesP] using OwB.nil _ _ _, Below.refl _ _⟩
  case round =>
    obtain ⟨k, Ao, no, co, hk, rfl, rfl, ho, hb⟩ := hrel
    by_cases hlt : k < n
    · obtain ⟨b, off, rfl, hbb, hrow⟩ := hr.rows (by omega)
      have hkl : k < L.length := by have := HL.out; omega
      obtain ⟨A', n', c', hcell0, hrd⟩ := hrow k _ (List.getElem?_eq_getElem hkl)
      have hcell := (hb.cell (p := ⟨b, off + k, none⟩) hbb).trans hcell0
      have hd200 : n' ≤ 200 := by rw [hrd.len]; exact (fewB_le HW.out).2 k _ (List.getElem?_eq_getElem hkl)
      have hno : no ≤ 4320 := by rw [ho.len]; exact framesP_few HW.out s k
      have HT := Lib.hid (framesP_take s (List.getElem?_eq_getElem hkl))
      have HLN := Lib.hid hrd.len
      clear hrow hcell0
      generalize L[k] = d at *
      go_wp2_with (first
        | (go_at_call 13; go_must ((refine (rframe_okI ((s : Int) + (k : Int)) (s + k) (by omega) A' n' c' d _ ?_ ?_ ?_ ?_).mono ?_); (focus (refine RdB.below hrd ?_; (refine bel_out ?_; (focus (repeat' first | (with_reducible refine bel_refl ?_) | with_reducible assumption | with_reducible refine bel_drew ?_ | with_reducible refine bel_drewN _ ?_ | with_reducible refine bel_alloc _ ?_ | with_reducible refine bel_set ?_ _ ?_ | (with_reducible apply bel_call; with_reducible assumption) | (with_reducible apply bel_owg; with_reducible assumption; (focus omega)) | with_reducible exact Nat.le_refl _ | omega | (simp; done) | (simp; omega)))))); (focus omega); (focus omega); (focus omega); rintro e w2 ⟨v2, rfl, ⟨A2, n2, c2, rfl, ho2⟩, hb2⟩; (have hn2 : n2 = 16 + n' := (ho2.len.trans (frameB_length _ _)).trans (by rw [HLN.out])); subst hn2; have ho' := OwB.call hb2 ho))
        | (at_builtin; refine wpList_append_g _ rfl (.tmp 27) (.tmp 28) 22 rfl w.heap.size 5 i0 Try.underlying22 hi0 hz0' hz1' hz2' Ao no co (framesP (L.take k) s) rfl ho' A2 (16 + n') c2 (frameB (s + k) d) rfl ho2.rd ?_ ?_ ?_; (focus omega); (focus (have h1 := hb.size; have h2 := hb2.size; omega)); intro A3 c3 w3 ho3 hg3))
      go_roundw
      case rel => exact ⟨k + 1, A3, _, c3, by omega, by go_num, rfl, by rw [HT.out]; exact ho3, bel_out (bel_owg hg3 (Nat.le_refl _) ⟨Nat.le_refl _, below_call hb hb2⟩)⟩
      case measure => simp [intOf]; omega
    · have hkn : L.take k = L := List.take_of_length_le (by have := HL.out; omega)
      rw [hkn] at ho
      clear hkn
      go_wp2
      go_ret
      exact ⟨_, rfl, ⟨_, _, _, rfl, ho⟩, hb⟩

end Go.Proofs.Ytaagmiidapammaa
