/- The law JournalChanged: a changed byte changes the sum. -/
import Derived.Test.YtaagmiidapammaaJ7
import Derived.StillTailTactics
namespace Go.Proofs.Ytaagmiidapammaa
open Go.RowKit
set_option linter.unusedSimpArgs false
set_option linter.unusedVariables false

theorem ofNat_toNat8 (b : UInt8) (v : Nat) : UInt8.ofNat (v * 256 + b.toNat) = b := by
  apply UInt8.toNat_inj.1
  rw [UInt8.toNat_ofNat']
  have := b.toNat_lt
  omega
theorem be_val' (n : Nat) : ∀ l : List UInt8, l.length = n → be (val l) n = l := by
  induction n with
  | zero => intro l hl; rw [List.eq_nil_of_length_eq_zero hl]; rfl
  | succ n ih =>
    intro l hl
    rcases List.eq_nil_or_concat l with rfl | ⟨l', b, rfl⟩
    · simp at hl
    · rw [List.concat_eq_append] at hl ⊢
      have hl2 : l'.length = n := by simpa using hl
      have hb := b.toNat_lt
      rw [be, val_snoc, ofNat_toNat8]
      have e : (val l' * 256 + b.toNat) / 256 = val l' := by omega
      rw [e, ih l' hl2]
theorem val_inj {l r : List UInt8} (hl : l.length = r.length) (h : val l = val r) : l = r := by
  rw [← be_val' r.length r rfl, ← be_val' l.length l rfl, h, hl]

theorem set_take_lo {l : List UInt8} {i k : Nat} (y : UInt8) (h : k ≤ i) : (l.set i y).take k = l.take k := by
  rw [List.take_set, List.set_eq_of_length_le]
  rw [List.length_take]; omega
theorem set_drop_lo {l : List UInt8} {i k : Nat} (y : UInt8) (h : i < k) : (l.set i y).drop k = l.drop k := by
  rw [List.drop_set, if_pos h]
theorem set_drop_hi {l : List UInt8} {i k : Nat} (y : UInt8) (h : k ≤ i) : (l.set i y).drop k = (l.drop k).set (i - k) y := by
  rw [List.drop_set, if_neg (by omega)]

theorem nx_changed (s : Nat) (d : List UInt8) (i : Nat) (y : UInt8) (hd : d.length ≤ 65536) (h4 : 4 ≤ i) (hi : i < 16 + d.length) (hy : y ≠ (frameB s d).getD i 0) : nxE ((frameB s d).set i y) = 14 := by
  have hlen : ((frameB s d).set i y).length = 16 + d.length := by rw [List.length_set, frameB_length]
  have f0 : frameB s d = frameB s d ++ [] := by rw [List.append_nil]
  have hn : nLen ((frameB s d).set i y) = d.length := by
    rw [nLen, set_take_lo y h4]
    have := nLen_frame s d [] hd
    rw [← f0] at this
    exact this
  have hk : sumOk ((frameB s d).set i y) = false := by
    have t12 := take12_frame s d []
    have dat := nDat_frame s d [] hd
    have chk := nChk_frame s d []
    have nl := nLen_frame s d [] hd
    rw [← f0] at t12 dat chk nl
    unfold sumOk
    rw [decide_eq_false_iff_not]
    intro heq
    by_cases h12 : i < 12
    · have e1 : ((frameB s d).set i y).take 12 = (headB d.length s).set i y := by rw [List.take_set, t12]
      have e2 : nDat ((frameB s d).set i y) = d := by rw [nDat, hn, set_drop_lo y (by omega), ← nl]; exact dat
      have e3 : nChk ((frameB s d).set i y) = (sumP (headB d.length s ++ d)).toNat := by rw [nChk, set_drop_lo y (by omega)]; exact chk
      rw [e1, e2, e3] at heq
      have e4 : (headB d.length s).set i y ++ d = (headB d.length s ++ d).set i y := by rw [List.set_append_left _ _ (by rw [headB_length]; omega)]
      rw [e4] at heq
      refine fnv_set 2166136261 (headB d.length s ++ d) i y (by rw [List.length_append, headB_length]; omega) ?_ (UInt32.toNat_inj.1 heq)
      intro hy2
      apply hy
      rw [hy2]
      rw [List.getD_eq_getElem?_getD, List.getD_eq_getElem?_getD, List.getElem?_append_left (by rw [headB_length]; omega), frameB, List.append_assoc, List.getElem?_append_left (by rw [headB_length]; omega)]
    · have e1 : ((frameB s d).set i y).take 12 = headB d.length s := by rw [set_take_lo y (by omega), t12]
      by_cases h16 : i < 16
      · have e2 : nDat ((frameB s d).set i y) = d := by rw [nDat, hn, set_drop_lo y (by omega), ← nl]; exact dat
        have e3 : nChk ((frameB s d).set i y) = val ((((frameB s d).drop 12).take 4).set (i - 12) y) := by rw [nChk, set_drop_hi y (by omega), List.take_set]
        rw [e1, e2, e3, ← chk, nChk] at heq
        have h5 := val_inj (by rw [List.length_set]) heq
        have h6 : i - 12 < (((frameB s d).drop 12).take 4).length := by rw [List.length_take, List.length_drop, frameB_length]; omega
        have h7 : ((((frameB s d).drop 12).take 4).set (i - 12) y)[i - 12]? = some y := by rw [List.getElem?_set_self h6]
        rw [← h5] at h7
        apply hy
        rw [List.getElem?_take, if_pos (by omega), List.getElem?_drop, show 12 + (i - 12) = i by omega] at h7
        rw [List.getD_eq_getElem?_getD, h7]
        rfl
      · have e2 : nDat ((frameB s d).set i y) = d.set (i - 16) y := by
          rw [nDat, hn, set_drop_hi y (by omega), List.take_set]
          have : (List.drop 16 (frameB s d)).take d.length = d := by rw [nDat, nl] at dat; exact dat
          rw [this]
        have e3 : nChk ((frameB s d).set i y) = (sumP (headB d.length s ++ d)).toNat := by
          rw [nChk, set_drop_hi y (by omega), List.take_set, List.set_eq_of_length_le (by rw [List.length_take, List.length_drop, frameB_length]; omega)]
          exact chk
        rw [e1, e2, e3] at heq
        have e4 : headB d.length s ++ d.set (i - 16) y = (headB d.length s ++ d).set (i - 4) y := by
          rw [List.set_append_right _ _ (by rw [headB_length]; omega), headB_length]
          congr 2
        rw [e4] at heq
        refine fnv_set 2166136261 (headB d.length s ++ d) (i - 4) y (by rw [List.length_append, headB_length]; omega) ?_ (UInt32.toNat_inj.1 heq)
        intro hy2
        apply hy
        rw [hy2, List.getD_eq_getElem?_getD, List.getD_eq_getElem?_getD]
        have q1 : (headB d.length s ++ d)[i - 4]? = d[i - 16]? := by rw [List.getElem?_append_right (by rw [headB_length]; omega), headB_length]; congr 1
        have q2 : (frameB s d)[i]? = d[i - 16]? := by
          rw [frameB, List.getElem?_append_right (by rw [List.length_append, headB_length, be_length]; omega), List.length_append, headB_length, be_length]
        rw [q1, q2]
  unfold nxE
  rw [hn, hlen, if_neg (by omega), if_neg (by omega), if_neg (by omega), if_neg (by rw [hk]; simp)]


theorem next_changed (A : Option Addr) (n c : Nat) (s i : Nat) (d : List UInt8) (y : UInt8) (w : World) (hr : RdB w A n c ((frameB s d).set i y)) (hd : d.length ≤ 65536) (h4 : 4 ≤ i) (hi : i < 16 + d.length) (hy : y ≠ (frameB s d).getD i 0) :
    Calls Try.prog 18 #[.slice A n c] w (Ret w fun v w' => ∃ A' c', v = .tuple #[.agg #[.int .i64 0, .slice A' 0 c'], .int .i64 0, .int .i64 14]) := by
  have he := nx_changed s d i y hd h4 hi hy
  obtain ⟨e1, e2, e3⟩ := nx_no he (by omega)
  refine (next_any A n c _ w hr).mono ?_
  rintro e w' ⟨v, rfl, ⟨A', n', c', rfl, ho⟩, hb⟩
  rw [e3] at ho
  obtain rfl : n' = 0 := ho.len
  rw [he, e1, e2]
  exact ⟨_, rfl, ⟨A', c', rfl⟩, hb⟩
theorem xor_ne (x y : UInt8) (h : y ≠ 0) : x ^^^ y ≠ x := by
  intro e
  apply h
  have : x ^^^ (x ^^^ y) = x ^^^ x := by rw [e]
  rwa [← UInt8.xor_assoc, UInt8.xor_self, UInt8.zero_xor] at this

set_option maxRecDepth 100000 in
set_option maxHeartbeats 1600000 in
theorem changed_walk (x : Int) (A : Option Addr) (n c : Nat) (d : List UInt8) (pos by' : Int) (w : World) (hr : RdB w A n c d) :
    Calls Try.prog 5 #[.int .i64 x, .slice A n c, .int .i64 pos, .int .i64 by'] w fun e w' => e = .returned (.bool true) ∧ Below w.heap.size w w' := by
  have hA := Lib.hid (awake_law w)
  by_cases h1 : 3000 < n
  · go_enter Try.func5, Try.ntmps5
    go_wp2_with (go_at_call 11; refine (hA.out _ ?_).mono ?_; (refine bel_out ?_; (focus (repeat' first | (with_reducible refine bel_refl ?_) | with_reducible assumption | with_reducible refine bel_drew ?_ | with_reducible refine bel_drewN _ ?_ | with_reducible refine bel_alloc _ ?_ | with_reducible refine bel_set ?_ _ ?_ | (with_reducible apply bel_call; with_reducible assumption) | (with_reducible apply bel_owg; with_reducible assumption; (focus omega)) | with_reducible exact Nat.le_refl _ | omega | (simp; done) | (simp; omega)))); rintro e w1 ⟨rfl, hb1⟩)
    go_ret
    exact ⟨rfl, by (refine bel_out ?_; (focus (repeat' first | (with_reducible refine bel_refl ?_) | with_reducible assumption | with_reducible refine bel_drew ?_ | with_reducible refine bel_drewN _ ?_ | with_reducible refine bel_alloc _ ?_ | with_reducible refine bel_set ?_ _ ?_ | (with_reducible apply bel_call; with_reducible assumption) | (with_reducible apply bel_owg; with_reducible assumption; (focus omega)) | with_reducible exact Nat.le_refl _ | omega | (simp; done) | (simp; omega))))⟩
  · obtain ⟨K, hK, -, hR⟩ := round_nat x 1073741824 (by omega) (by omega)
    obtain ⟨K1, hK1, -, hR1⟩ := round_natI pos (12 + (n : Int)) (12 + n) (by omega) (by omega) (by omega)
    obtain ⟨K2, hK2, -, hR2⟩ := round_natI by' 255 255 rfl (by omega) (by omega)
    have HR := Lib.hid hR
    have HR1 := Lib.hid hR1
    have HR2 := Lib.hid hR2
    have HL := Lib.hid hr.len
    have hK0 : Hid (K < 1073741824) := Lib.hid hK
    have hK3 : IntKind.i64.wrap (1 + (K : Int)) = 1 + (K : Int) := by rw [IntKind.wrap_i64]; omega
    have hw4 : IntKind.i64.wrap (16 + (n : Int) - 4) = 12 + (n : Int) := by rw [IntKind.wrap_i64]; omega
    have hw5 : IntKind.i64.wrap (4 + (K1 : Int)) = 4 + (K1 : Int) := by rw [IntKind.wrap_i64]; omega
    have hw6 : IntKind.i64.wrap (1 + (K2 : Int)) = 1 + (K2 : Int) := by rw [IntKind.wrap_i64]; omega
    have hi1 : (0 : Int) ≤ 4 + (K1 : Int) := by omega
    have hi2 : 4 + (K1 : Int) < 16 + (n : Int) := by omega
    have hti : (4 + (K1 : Int)).toNat = 4 + K1 := by omega
    clear hR hK hR1 hR2
    go_enter Try.func5, Try.ntmps5
    go_wp2_with (first
      | (go_at_call 17; go_must ((refine (HR.out _).mono ?_); rintro e W1 ⟨rfl, rfl⟩))
      | (go_at_call 13; go_must ((with_reducible refine (rframe_okI (1 + (K : Int)) (1 + K) (by omega) A n c d _ ?_ ?_ ?_ ?_).mono ?_); (focus (refine RdB.below hr ?_; (refine bel_out ?_; (focus (repeat' first | (with_reducible refine bel_refl ?_) | with_reducible assumption | with_reducible refine bel_drew ?_ | with_reducible refine bel_drewN _ ?_ | with_reducible refine bel_alloc _ ?_ | with_reducible refine bel_set ?_ _ ?_ | (with_reducible apply bel_call; with_reducible assumption) | (with_reducible apply bel_owg; with_reducible assumption; (focus omega)) | with_reducible exact Nat.le_refl _ | omega | (simp; done) | (simp; omega)))))); (focus omega); (focus (have := hK0.out; omega)); (focus omega); rintro e w1 ⟨v1, rfl, ⟨A1, n1, c1, rfl, ho1⟩, hb1⟩; (have hn1 : n1 = 16 + n := (ho1.len.trans (frameB_length _ _)).trans (by rw [HL.out])); subst hn1)))
    obtain ⟨g, rfl, hg1, hg2, hcell, hfr⟩ := ho1.cellAt (4 + K1) (by omega)
    obtain ⟨b0, hb0⟩ : ∃ b0, (frameB (1 + K) d).getD (4 + K1) 0 = b0 := ⟨_, rfl⟩
    rw [hb0] at hcell
    have HB0 := Lib.hid hb0
    obtain ⟨y, hy⟩ : ∃ y, b0 ^^^ UInt8.ofNat (1 + K2) = y := ⟨_, rfl⟩
    have hxor : bits .xor .u8 (b0.toNat : Int) (1 + (K2 : Int)) = (y.toNat : Int) := by
      have h5 : ((UInt8.ofNat (1 + K2)).toNat : Int) = 1 + (K2 : Int) := by rw [UInt8.toNat_ofNat']; omega
      rw [← h5, xor_u8, hy]
    have HNE : Hid (y ≠ b0) := Lib.hid (by
      rw [← hy]
      refine xor_ne b0 _ (fun h6 => ?_)
      have h7 := congrArg UInt8.toNat h6
      rw [UInt8.toNat_ofNat'] at h7
      have h8 : (0 : UInt8).toNat = 0 := rfl
      omega)
    clear hb0 hy
    refine wp_region_still_tail 15 (by kernel_rfl) (by kernel_rfl) ?_
    simp only [List.take_succ_cons, List.take_zero, List.drop_succ_cons, List.drop_zero]
    repeat still_step
    still_call (HR1.out _)
    repeat still_step
    still_call (HR2.out _)
    repeat still_step
    refine wpStill_nil ?_
    go_wp2_with fail
    refine (next_changed (some ⟨g, 0, none⟩) (16 + n) c1 (1 + K) (4 + K1) d y _ ?_ ?_ ?_ ?_ ?_).mono ?_
    · exact (OwB.drew (ho1.stored (4 + K1) y)).rd
    · have := HL.out; omega
    · omega
    · have := HL.out; omega
    · rw [HB0.out]; exact HNE.out
    rintro e w2 ⟨v2, rfl, ⟨A2, c2, rfl⟩, hb2⟩
    go_wp2_with (go_at_call 11; refine (hA.out _ ?_).mono ?_; (refine bel_out ?_; (focus (repeat' first | (with_reducible refine bel_refl ?_) | with_reducible assumption | with_reducible refine bel_drew ?_ | with_reducible refine bel_drewN _ ?_ | with_reducible refine bel_alloc _ ?_ | with_reducible refine bel_set ?_ _ ?_ | (with_reducible apply bel_call; with_reducible assumption) | (with_reducible apply bel_owg; with_reducible assumption; (focus omega)) | with_reducible exact Nat.le_refl _ | omega | (simp; done) | (simp; omega)))); rintro e w5 ⟨rfl, hb5⟩; obtain ⟨kc5, kf5, kz5, kh5⟩ := blk_cells hb5 (g := w2.heap.size) (t := 24) (cs := #[.int .i64 0, .slice A2 0 c2]) (by (focus (repeat' first | with_reducible assumption | (with_reducible refine heap_drew ?_) | (with_reducible refine heap_drewN ?_) | (with_reducible refine heap_new ?_; focus (first | rfl | omega | (simp; done))) | (with_reducible refine heap_old ?_) | (with_reducible apply heap_near') | ((with_reducible show Array.setIfInBounds _ _ _ = _); rfl) | (with_reducible refine heap_far ?_ ?_; focus (first | omega | (simp; omega) | (simp; done))) | (with_reducible apply heap_grown; with_reducible assumption; (focus (first | omega | (simp; omega)))) | (with_reducible apply heap_call; with_reducible assumption)))))
    go_ret
    exact ⟨rfl, by (refine bel_out ?_; (focus (repeat' first | (with_reducible refine bel_refl ?_) | with_reducible assumption | with_reducible refine bel_drew ?_ | with_reducible refine bel_drewN _ ?_ | with_reducible refine bel_alloc _ ?_ | with_reducible refine bel_set ?_ _ ?_ | (with_reducible apply bel_call; with_reducible assumption) | (with_reducible apply bel_owg; with_reducible assumption; (focus omega)) | with_reducible exact Nat.le_refl _ | omega | (simp; done) | (simp; omega))))⟩

end Go.Proofs.Ytaagmiidapammaa
