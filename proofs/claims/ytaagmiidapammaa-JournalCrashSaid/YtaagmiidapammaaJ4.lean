/- The walks of Next. -/
import Derived.Test.YtaagmiidapammaaJ3
namespace Go.Proofs.Ytaagmiidapammaa
open Go.RowKit
set_option linter.unusedSimpArgs false
set_option linter.unusedVariables false

theorem size_u8 (W : World) : (sizeOf (Try.prog.elem 22)).run Try.prog W = .ok 1 W := by kernel_rfl
theorem elem_u8 : Try.prog.underlying 22 = some (.slice (Try.prog.elem 22)) := by kernel_rfl

def RNx (w : World) (l : List UInt8) : Ending → World → Prop := Ret w fun v w' => ∃ A n c, v = .tuple #[.agg #[.int .i64 (nxS l : Int), .slice A n c], .int .i64 (nxN l : Int), .int .i64 (nxE l)] ∧ OwB w' w.heap.size 5 A n c (nxD l)
theorem nx_no {l : List UInt8} {e : Int} (h : nxE l = e) (h0 : e ≠ 0) : nxN l = 0 ∧ nxS l = 0 ∧ nxD l = [] := by
  have : nxE l ≠ 0 := by rw [h]; exact h0
  exact ⟨by rw [nxN, if_neg this], by rw [nxS, if_neg this], by rw [nxD, if_neg this]⟩
theorem RNx.no {w w' : World} {l : List UInt8} {e : Int} (h : nxE l = e) (h0 : e ≠ 0) (hb : Below w.heap.size w w') : RNx w l (.returned (.tuple #[.agg #[.int .i64 0, .slice none 0 0], .int .i64 0, .int .i64 e])) w' := by
  obtain ⟨h1, h2, h3⟩ := nx_no h h0
  refine ⟨_, rfl, ⟨none, 0, 0, ?_, ?_⟩, hb⟩
  · rw [h, h1, h2]; rfl
  · rw [h3]; exact OwB.nil _ _ _

set_option maxHeartbeats 800000 in
theorem next_short (A : Option Addr) (n c : Nat) (l : List UInt8) (w : World) (hr : RdB w A n c l) (h : n < 16 ∨ 65536 < nLen l ∨ n < 16 + nLen l) :
    Calls Try.prog 18 #[.slice A n c] w (RNx w l) := by
  have hln := hr.len
  have hcap := hr.cap
  by_cases h1 : n < 16
  · have he : nxE l = 13 := by rw [nxE, if_pos (by omega)]
    have hd : decide (n < 16) = true := by simpa using h1
    have HE := Lib.hid he
    clear hln he
    go_enter Try.func18, Try.ntmps18
    go_wp2
    refine bodyPost_ret (v := .tuple #[.agg #[.int .i64 0, .slice none 0 0], .int .i64 0, .int .i64 13]) ?_ rfl (RNx.no HE.out (by omega) ?_)
    · simp [results, Try.results18, go_sem]
    · (refine bel_out ?_; (focus (repeat' first | (with_reducible refine bel_refl ?_) | with_reducible assumption | with_reducible refine bel_drew ?_ | with_reducible refine bel_drewN _ ?_ | with_reducible refine bel_alloc _ ?_ | with_reducible refine bel_set ?_ _ ?_ | (with_reducible apply bel_call; with_reducible assumption) | (with_reducible apply bel_owg; with_reducible assumption; (focus omega)) | with_reducible exact Nat.le_refl _ | omega | (simp; done) | (simp; omega))))
  · have hd : decide (n < 16) = false := by simpa using h1
    have hp := hr.pre 4 (by omega)
    have HP : Hid (∀ W : World, Below w.heap.size w W → RdB W A 4 c (l.take 4)) := fun W hW => hp.below hW
    clear hp
    have hc4 : (4 : Int) ≤ (c : Int) := by omega
    by_cases h2 : 65536 < nLen l
    · have he : nxE l = 3 := by rw [nxE, if_neg (by omega), if_pos h2]
      have HE := Lib.hid he
      have h2' : (65536 : Int) < (val (l.take 4) : Int) := by have : nLen l = val (l.take 4) := rfl; omega
      clear hln he h2
      generalize hm : val (l.take 4) = m at h2'
      have HM := Lib.hid hm
      clear hm
      have hd2 : decide ((65536 : Int) < (m : Int)) = true := by simpa using h2'
      go_enter Try.func18, Try.ntmps18
      go_wp2_with ((go_at_call 30; (with_reducible refine (get_any A 4 c (l.take 4) _ ?_ ?_).mono ?_); (focus (refine HP.out _ ?_; (refine bel_out ?_; (focus (repeat' first | (with_reducible refine bel_refl ?_) | with_reducible assumption | with_reducible refine bel_drew ?_ | with_reducible refine bel_drewN _ ?_ | with_reducible refine bel_alloc _ ?_ | with_reducible refine bel_set ?_ _ ?_ | (with_reducible apply bel_call; with_reducible assumption) | (with_reducible apply bel_owg; with_reducible assumption; (focus omega)) | with_reducible exact Nat.le_refl _ | omega | (simp; done) | (simp; omega)))))); (focus omega); rintro e W1 ⟨rfl, rfl⟩); rw [HM.out])
      refine bodyPost_ret (v := .tuple #[.agg #[.int .i64 0, .slice none 0 0], .int .i64 0, .int .i64 3]) ?_ rfl (RNx.no HE.out (by omega) ?_)
      · simp [results, Try.results18, go_sem]
      · (refine bel_out ?_; (focus (repeat' first | (with_reducible refine bel_refl ?_) | with_reducible assumption | with_reducible refine bel_drew ?_ | with_reducible refine bel_drewN _ ?_ | with_reducible refine bel_alloc _ ?_ | with_reducible refine bel_set ?_ _ ?_ | (with_reducible apply bel_call; with_reducible assumption) | (with_reducible apply bel_owg; with_reducible assumption; (focus omega)) | with_reducible exact Nat.le_refl _ | omega | (simp; done) | (simp; omega))))
    · have h3 : n < 16 + nLen l := by omega
      have he : nxE l = 13 := by rw [nxE, if_neg (by omega), if_neg h2, if_pos (by omega)]
      have HE := Lib.hid he
      have h2' : ¬ (65536 : Int) < (val (l.take 4) : Int) := by have : nLen l = val (l.take 4) := rfl; omega
      have h3' : (n : Int) < 16 + (val (l.take 4) : Int) := by have : nLen l = val (l.take 4) := rfl; omega
      clear hln he h2 h3 h
      generalize hm : val (l.take 4) = m at h2' h3'
      have HM := Lib.hid hm
      clear hm
      have hd2 : decide ((65536 : Int) < (m : Int)) = false := by simpa using h2'
      have hm2 : (m : Int) ≤ 65536 := by omega
      go_enter Try.func18, Try.ntmps18
      go_wp2_with ((go_at_call 30; (with_reducible refine (get_any A 4 c (l.take 4) _ ?_ ?_).mono ?_); (focus (refine HP.out _ ?_; (refine bel_out ?_; (focus (repeat' first | (with_reducible refine bel_refl ?_) | with_reducible assumption | with_reducible refine bel_drew ?_ | with_reducible refine bel_drewN _ ?_ | with_reducible refine bel_alloc _ ?_ | with_reducible refine bel_set ?_ _ ?_ | (with_reducible apply bel_call; with_reducible assumption) | (with_reducible apply bel_owg; with_reducible assumption; (focus omega)) | with_reducible exact Nat.le_refl _ | omega | (simp; done) | (simp; omega)))))); (focus omega); rintro e W1 ⟨rfl, rfl⟩); rw [HM.out])
      refine bodyPost_ret (v := .tuple #[.agg #[.int .i64 0, .slice none 0 0], .int .i64 0, .int .i64 13]) ?_ rfl (RNx.no HE.out (by omega) ?_)
      · simp [results, Try.results18, go_sem]
      · (refine bel_out ?_; (focus (repeat' first | (with_reducible refine bel_refl ?_) | with_reducible assumption | with_reducible refine bel_drew ?_ | with_reducible refine bel_drewN _ ?_ | with_reducible refine bel_alloc _ ?_ | with_reducible refine bel_set ?_ _ ?_ | (with_reducible apply bel_call; with_reducible assumption) | (with_reducible apply bel_owg; with_reducible assumption; (focus omega)) | with_reducible exact Nat.le_refl _ | omega | (simp; done) | (simp; omega))))

set_option maxHeartbeats 800000 in
theorem rnext_short (A : Option Addr) (n c : Nat) (l : List UInt8) (w : World) (hr : RdB w A n c l) (h : n < 16 ∨ 65536 < nLen l ∨ n < 16 + nLen l) :
    Calls Try.prog 32 #[.slice A n c] w (RNx w l) := by
  have hln := hr.len
  have hcap := hr.cap
  by_cases h1 : n < 16
  · have he : nxE l = 13 := by rw [nxE, if_pos (by omega)]
    have hd : decide (n < 16) = true := by simpa using h1
    have HE := Lib.hid he
    clear hln he
    go_enter Try.func32, Try.ntmps32
    go_wp2
    refine bodyPost_ret (v := .tuple #[.agg #[.int .i64 0, .slice none 0 0], .int .i64 0, .int .i64 13]) ?_ rfl (RNx.no HE.out (by omega) ?_)
    · simp [results, Try.results32, go_sem]
    · (refine bel_out ?_; (focus (repeat' first | (with_reducible refine bel_refl ?_) | with_reducible assumption | with_reducible refine bel_drew ?_ | with_reducible refine bel_drewN _ ?_ | with_reducible refine bel_alloc _ ?_ | with_reducible refine bel_set ?_ _ ?_ | (with_reducible apply bel_call; with_reducible assumption) | (with_reducible apply bel_owg; with_reducible assumption; (focus omega)) | with_reducible exact Nat.le_refl _ | omega | (simp; done) | (simp; omega))))
  · have hd : decide (n < 16) = false := by simpa using h1
    have hp := hr.pre 4 (by omega)
    have HP : Hid (∀ W : World, Below w.heap.size w W → RdB W A 4 c (l.take 4)) := fun W hW => hp.below hW
    clear hp
    have hc4 : (4 : Int) ≤ (c : Int) := by omega
    by_cases h2 : 65536 < nLen l
    · have he : nxE l = 3 := by rw [nxE, if_neg (by omega), if_pos h2]
      have HE := Lib.hid he
      have h2' : (65536 : Int) < (val (l.take 4) : Int) := by have : nLen l = val (l.take 4) := rfl; omega
      clear hln he h2
      generalize hm : val (l.take 4) = m at h2'
      have HM := Lib.hid hm
      clear hm
      have hd2 : decide ((65536 : Int) < (m : Int)) = true := by simpa using h2'
      go_enter Try.func32, Try.ntmps32
      go_wp2_with ((go_at_call 45; (with_reducible refine (value_any A 4 c (l.take 4) _ ?_ ?_).mono ?_); (focus (refine HP.out _ ?_; (refine bel_out ?_; (focus (repeat' first | (with_reducible refine bel_refl ?_) | with_reducible assumption | with_reducible refine bel_drew ?_ | with_reducible refine bel_drewN _ ?_ | with_reducible refine bel_alloc _ ?_ | with_reducible refine bel_set ?_ _ ?_ | (with_reducible apply bel_call; with_reducible assumption) | (with_reducible apply bel_owg; with_reducible assumption; (focus omega)) | with_reducible exact Nat.le_refl _ | omega | (simp; done) | (simp; omega)))))); (focus omega); rintro e W1 ⟨rfl, rfl⟩); rw [HM.out])
      refine bodyPost_ret (v := .tuple #[.agg #[.int .i64 0, .slice none 0 0], .int .i64 0, .int .i64 3]) ?_ rfl (RNx.no HE.out (by omega) ?_)
      · simp [results, Try.results32, go_sem]
      · (refine bel_out ?_; (focus (repeat' first | (with_reducible refine bel_refl ?_) | with_reducible assumption | with_reducible refine bel_drew ?_ | with_reducible refine bel_drewN _ ?_ | with_reducible refine bel_alloc _ ?_ | with_reducible refine bel_set ?_ _ ?_ | (with_reducible apply bel_call; with_reducible assumption) | (with_reducible apply bel_owg; with_reducible assumption; (focus omega)) | with_reducible exact Nat.le_refl _ | omega | (simp; done) | (simp; omega))))
    · have h3 : n < 16 + nLen l := by omega
      have he : nxE l = 13 := by rw [nxE, if_neg (by omega), if_neg h2, if_pos (by omega)]
      have HE := Lib.hid he
      have h2' : ¬ (65536 : Int) < (val (l.take 4) : Int) := by have : nLen l = val (l.take 4) := rfl; omega
      have h3' : (n : Int) < 16 + (val (l.take 4) : Int) := by have : nLen l = val (l.take 4) := rfl; omega
      clear hln he h2 h3 h
      generalize hm : val (l.take 4) = m at h2' h3'
      have HM := Lib.hid hm
      clear hm
      have hd2 : decide ((65536 : Int) < (m : Int)) = false := by simpa using h2'
      have hm2 : (m : Int) ≤ 65536 := by omega
      go_enter Try.func32, Try.ntmps32
      go_wp2_with ((go_at_call 45; (with_reducible refine (value_any A 4 c (l.take 4) _ ?_ ?_).mono ?_); (focus (refine HP.out _ ?_; (refine bel_out ?_; (focus (repeat' first | (with_reducible refine bel_refl ?_) | with_reducible assumption | with_reducible refine bel_drew ?_ | with_reducible refine bel_drewN _ ?_ | with_reducible refine bel_alloc _ ?_ | with_reducible refine bel_set ?_ _ ?_ | (with_reducible apply bel_call; with_reducible assumption) | (with_reducible apply bel_owg; with_reducible assumption; (focus omega)) | with_reducible exact Nat.le_refl _ | omega | (simp; done) | (simp; omega)))))); (focus omega); rintro e W1 ⟨rfl, rfl⟩); rw [HM.out])
      refine bodyPost_ret (v := .tuple #[.agg #[.int .i64 0, .slice none 0 0], .int .i64 0, .int .i64 13]) ?_ rfl (RNx.no HE.out (by omega) ?_)
      · simp [results, Try.results32, go_sem]
      · (refine bel_out ?_; (focus (repeat' first | (with_reducible refine bel_refl ?_) | with_reducible assumption | with_reducible refine bel_drew ?_ | with_reducible refine bel_drewN _ ?_ | with_reducible refine bel_alloc _ ?_ | with_reducible refine bel_set ?_ _ ?_ | (with_reducible apply bel_call; with_reducible assumption) | (with_reducible apply bel_owg; with_reducible assumption; (focus omega)) | with_reducible exact Nat.le_refl _ | omega | (simp; done) | (simp; omega))))


set_option maxHeartbeats 1600000 in
theorem next_long (A : Option Addr) (n c : Nat) (l : List UInt8) (w : World) (hr : RdB w A n c l) (h1 : 16 ≤ n) (h2 : nLen l ≤ 65536) (h3 : 16 + nLen l ≤ n) :
    Calls Try.prog 18 #[.slice A n c] w (RNx w l) := by
  have hln := hr.len
  have hcap := hr.cap
  have hd : decide (n < 16) = false := by simp; omega
  have hp := hr.pre 4 (by omega)
  have hp12 := hr.pre 12 (by omega)
  have HP : Hid (∀ W : World, Below w.heap.size w W → RdB W A 4 c (l.take 4)) := fun W hW => hp.below hW
  have HP12 : Hid (∀ W : World, Below w.heap.size w W → RdB W A 12 c (l.take 12)) := fun W hW => hp12.below hW
  obtain ⟨A12, hs12, hr12⟩ := hr.cut elem_u8 size_u8 12 16 12 4 rfl rfl (by omega)
  obtain ⟨A4, hs4, hr4⟩ := hr.cut elem_u8 size_u8 4 12 4 8 rfl rfl (by omega)
  obtain ⟨A16, hs16, hr16⟩ := hr.cut elem_u8 size_u8 16 (16 + (nLen l : Int)) 16 (nLen l) rfl (by omega) h3
  have HP2 : Hid (∀ W : World, Below w.heap.size w W → RdB W A12 4 (c - 12) ((l.drop 12).take 4)) := fun W hW => hr12.below hW
  have HP3 : Hid (∀ W : World, Below w.heap.size w W → RdB W A4 8 (c - 4) ((l.drop 4).take 8)) := fun W hW => hr4.below hW
  have HP4 : Hid (∀ W : World, Below w.heap.size w W → RdB W A16 (nLen l) (c - 16) (nDat l)) := fun W hW => hr16.below hW
  have HM : Hid (val (l.take 4) = nLen l) := Lib.hid rfl
  have HC : Hid (val ((l.drop 12).take 4) = nChk l) := Lib.hid rfl
  have HS : Hid (val ((l.drop 4).take 8) = nSeq l) := Lib.hid rfl
  have hE : nxE l = if sumOk l = true then (if seqB (nSeq l) = true then 0 else 2) else 14 := by rw [nxE, if_neg (by omega), if_neg (by omega), if_neg (by omega)]
  have hways : (((((sumP (l.take 12 ++ nDat l)).toNat : Int) != (nChk l : Int)) = true) ∧ nxE l = 14) ∨ (((((sumP (l.take 12 ++ nDat l)).toNat : Int) != (nChk l : Int)) = false) ∧ (nSeq l : Int) < 1 ∧ nxE l = 2) ∨
      (((((sumP (l.take 12 ++ nDat l)).toNat : Int) != (nChk l : Int)) = false) ∧ ¬ (nSeq l : Int) < 1 ∧ 1073741824 < (nSeq l : Int) ∧ nxE l = 2) ∨ (((((sumP (l.take 12 ++ nDat l)).toNat : Int) != (nChk l : Int)) = false) ∧ ¬ (nSeq l : Int) < 1 ∧ ¬ 1073741824 < (nSeq l : Int) ∧ nxE l = 0) := by
    by_cases hk : (sumP (l.take 12 ++ nDat l)).toNat = nChk l
    · have hk1 : sumOk l = true := by rw [sumOk, decide_eq_true hk]
      have hk2 : (((sumP (l.take 12 ++ nDat l)).toNat : Int) != (nChk l : Int)) = false := by rw [hk]; simp
      rw [hE, if_pos hk1]
      by_cases hs1 : (nSeq l : Int) < 1
      · exact .inr (.inl ⟨hk2, hs1, by rw [if_neg (by simp [seqB]; omega)]⟩)
      · by_cases hs2 : 1073741824 < (nSeq l : Int)
        · exact .inr (.inr (.inl ⟨hk2, hs1, hs2, by rw [if_neg (by simp [seqB]; omega)]⟩))
        · exact .inr (.inr (.inr ⟨hk2, hs1, hs2, by rw [if_pos (by simp [seqB]; omega)]⟩))
    · refine .inl ⟨?_, ?_⟩
      · rw [bne_iff_ne]; omega
      · rw [hE, if_neg (by simp [sumOk, hk])]
  have hN0 : nxE l = 0 → nxN l = 16 + nLen l ∧ nxS l = nSeq l ∧ nxD l = nDat l := fun h => ⟨by rw [nxN, if_pos h], by rw [nxS, if_pos h], by rw [nxD, if_pos h]⟩
  have HN0 := Lib.hid hN0
  clear hp hp12 hr12 hr4 hr16 hln hE hN0
  generalize nLen l = m at *
  have hm1 : (m : Int) ≤ 65536 := by omega
  have hm2 : (16 : Int) + (m : Int) ≤ (n : Int) := by omega
  have hc4 : (4 : Int) ≤ (c : Int) := by omega
  have hc12 : (12 : Int) ≤ (c : Int) := by omega
  have hd2 : decide ((65536 : Int) < (m : Int)) = false := by simp; omega
  have hd3 : decide ((n : Int) < 16 + (m : Int)) = false := by simp; omega
  have hwq : IntKind.u64.wrap ((sumP (l.take 12 ++ nDat l)).toNat : Int) = ((sumP (l.take 12 ++ nDat l)).toNat : Int) := by have := UInt32.toNat_lt (sumP (l.take 12 ++ nDat l)); rw [IntKind.wrap_u64]; omega
  rcases hways with ⟨hq, he⟩ | ⟨hq, hs1, he⟩ | ⟨hq, hs1, hs2, he⟩ | ⟨hq, hs1, hs2, he⟩
  all_goals
    have HE := Lib.hid he
    clear he
    go_enter Try.func18, Try.ntmps18
    go_wp2_with ((go_at_call 30; (with_reducible refine (get_any A 4 c (l.take 4) _ ?_ ?_).mono ?_); (focus (refine HP.out _ ?_; (refine bel_out ?_; (focus (repeat' first | (with_reducible refine bel_refl ?_) | with_reducible assumption | with_reducible refine bel_drew ?_ | with_reducible refine bel_drewN _ ?_ | with_reducible refine bel_alloc _ ?_ | with_reducible refine bel_set ?_ _ ?_ | (with_reducible apply bel_call; with_reducible assumption) | (with_reducible apply bel_owg; with_reducible assumption; (focus omega)) | with_reducible exact Nat.le_refl _ | omega | (simp; done) | (simp; omega)))))); (focus omega); rintro e W1 ⟨rfl, rfl⟩; rw [HM.out]))
    go_region_held3 (fun _ => True) ((exact trivial))
      (first
        | (go_at_call 28; go_must ((refine (concat2_any _ A 12 c (l.take 12) A16 m (c - 16) (nDat l) _ ?_ ?_ ?_ ?_ ?_).mono ?_); (focus (refine HP12.out _ ?_; (refine bel_out ?_; (focus (repeat' first | (with_reducible refine bel_refl ?_) | with_reducible assumption | with_reducible refine bel_drew ?_ | with_reducible refine bel_drewN _ ?_ | with_reducible refine bel_alloc _ ?_ | with_reducible refine bel_set ?_ _ ?_ | (with_reducible apply bel_call; with_reducible assumption) | (with_reducible apply bel_owg; with_reducible assumption; (focus omega)) | with_reducible exact Nat.le_refl _ | omega | (simp; done) | (simp; omega)))))); (focus (refine HP4.out _ ?_; (refine bel_out ?_; (focus (repeat' first | (with_reducible refine bel_refl ?_) | with_reducible assumption | with_reducible refine bel_drew ?_ | with_reducible refine bel_drewN _ ?_ | with_reducible refine bel_alloc _ ?_ | with_reducible refine bel_set ?_ _ ?_ | (with_reducible apply bel_call; with_reducible assumption) | (with_reducible apply bel_owg; with_reducible assumption; (focus omega)) | with_reducible exact Nat.le_refl _ | omega | (simp; done) | (simp; omega)))))); (focus (simp [go_sem]; done)); (focus (simp [go_sem]; done)); (focus omega); rintro e w2 ⟨v2, rfl, ⟨A2, n2, c2, rfl, ho2⟩, hb2⟩))
        | (go_at_call 14; go_must ((with_reducible refine (sum_any A2 _ c2 (l.take 12 ++ nDat l) _ ?_).mono ?_); (focus (apply OwB.rd; (focus (repeat' first | with_reducible assumption | (with_reducible apply OwB.drew) | (with_reducible apply OwB.drewN) | (with_reducible apply OwB.alloc) | (with_reducible apply OwB.stored) | (with_reducible apply OwB.set) | (with_reducible apply OwB.call; with_reducible assumption) | omega | (simp; done) | (simp; omega))))); rintro e W1 ⟨rfl, rfl⟩))
        | (go_at_call 30; go_must ((with_reducible refine (get_any A12 4 (c - 12) ((l.drop 12).take 4) _ ?_ ?_).mono ?_); (focus (refine HP2.out _ ?_; (refine bel_out ?_; (focus (repeat' first | (with_reducible refine bel_refl ?_) | with_reducible assumption | with_reducible refine bel_drew ?_ | with_reducible refine bel_drewN _ ?_ | with_reducible refine bel_alloc _ ?_ | with_reducible refine bel_set ?_ _ ?_ | (with_reducible apply bel_call; with_reducible assumption) | (with_reducible apply bel_owg; with_reducible assumption; (focus omega)) | with_reducible exact Nat.le_refl _ | omega | (simp; done) | (simp; omega)))))); (focus omega); rintro e W1 ⟨rfl, rfl⟩; rw [HC.out])))
    obtain ⟨kc2, kf2, kz2, kh2⟩ := blk_cells hb2 (g := w.heap.size) (t := 24) (cs := #[.int .i64 0, .slice none 0 0]) (by (focus (repeat' first | with_reducible assumption | (with_reducible refine heap_drew ?_) | (with_reducible refine heap_drewN ?_) | (with_reducible refine heap_new ?_; focus (first | rfl | omega | (simp; done))) | (with_reducible refine heap_old ?_) | (with_reducible apply heap_near') | ((with_reducible show Array.setIfInBounds _ _ _ = _); rfl) | (with_reducible refine heap_far ?_ ?_; focus (first | omega | (simp; omega) | (simp; done))) | (with_reducible apply heap_grown; with_reducible assumption; (focus (first | omega | (simp; omega)))) | (with_reducible apply heap_call; with_reducible assumption))))
    go_wp2_with (first
      | (go_at_call 30; go_must ((with_reducible refine (get_any A4 8 (c - 4) ((l.drop 4).take 8) _ ?_ ?_).mono ?_); (focus (refine HP3.out _ ?_; (refine bel_out ?_; (focus (repeat' first | (with_reducible refine bel_refl ?_) | with_reducible assumption | with_reducible refine bel_drew ?_ | with_reducible refine bel_drewN _ ?_ | with_reducible refine bel_alloc _ ?_ | with_reducible refine bel_set ?_ _ ?_ | (with_reducible apply bel_call; with_reducible assumption) | (with_reducible apply bel_owg; with_reducible assumption; (focus omega)) | with_reducible exact Nat.le_refl _ | omega | (simp; done) | (simp; omega)))))); (focus omega); rintro e W1 ⟨rfl, rfl⟩; rw [HS.out]))
      | (go_at_call 31; go_must ((with_reducible refine (clone_any A16 m (c - 16) (nDat l) _ ?_ ?_).mono ?_); (focus (refine HP4.out _ ?_; (refine bel_out ?_; (focus (repeat' first | (with_reducible refine bel_refl ?_) | with_reducible assumption | with_reducible refine bel_drew ?_ | with_reducible refine bel_drewN _ ?_ | with_reducible refine bel_alloc _ ?_ | with_reducible refine bel_set ?_ _ ?_ | (with_reducible apply bel_call; with_reducible assumption) | (with_reducible apply bel_owg; with_reducible assumption; (focus omega)) | with_reducible exact Nat.le_refl _ | omega | (simp; done) | (simp; omega)))))); (focus omega); rintro e w3 ⟨v3, rfl, ⟨A3, n3, c3, rfl, ho3⟩, hb3⟩; obtain ⟨kc3, kf3, kz3, kh3⟩ := blk_cells hb3 (g := w.heap.size) (t := 24) (cs := #[.int .i64 0, .slice none 0 0]) (by (focus (repeat' first | with_reducible assumption | (with_reducible refine heap_drew ?_) | (with_reducible refine heap_drewN ?_) | (with_reducible refine heap_new ?_; focus (first | rfl | omega | (simp; done))) | (with_reducible refine heap_old ?_) | (with_reducible apply heap_near') | ((with_reducible show Array.setIfInBounds _ _ _ = _); rfl) | (with_reducible refine heap_far ?_ ?_; focus (first | omega | (simp; omega) | (simp; done))) | (with_reducible apply heap_grown; with_reducible assumption; (focus (first | omega | (simp; omega)))) | (with_reducible apply heap_call; with_reducible assumption)))))))
  · refine bodyPost_ret (v := .tuple #[.agg #[.int .i64 0, .slice none 0 0], .int .i64 0, .int .i64 14]) ?_ rfl (RNx.no HE.out (by omega) ?_)
    · simp [results, Try.results18, go_sem, kc2]
    · (refine bel_out ?_; (focus (repeat' first | (with_reducible refine bel_refl ?_) | with_reducible assumption | with_reducible refine bel_drew ?_ | with_reducible refine bel_drewN _ ?_ | with_reducible refine bel_alloc _ ?_ | with_reducible refine bel_set ?_ _ ?_ | (with_reducible apply bel_call; with_reducible assumption) | (with_reducible apply bel_owg; with_reducible assumption; (focus omega)) | with_reducible exact Nat.le_refl _ | omega | (simp; done) | (simp; omega))))
  · refine bodyPost_ret (v := .tuple #[.agg #[.int .i64 0, .slice none 0 0], .int .i64 0, .int .i64 2]) ?_ rfl (RNx.no HE.out (by omega) ?_)
    · simp [results, Try.results18, go_sem, kc2]
    · (refine bel_out ?_; (focus (repeat' first | (with_reducible refine bel_refl ?_) | with_reducible assumption | with_reducible refine bel_drew ?_ | with_reducible refine bel_drewN _ ?_ | with_reducible refine bel_alloc _ ?_ | with_reducible refine bel_set ?_ _ ?_ | (with_reducible apply bel_call; with_reducible assumption) | (with_reducible apply bel_owg; with_reducible assumption; (focus omega)) | with_reducible exact Nat.le_refl _ | omega | (simp; done) | (simp; omega))))
  · refine bodyPost_ret (v := .tuple #[.agg #[.int .i64 0, .slice none 0 0], .int .i64 0, .int .i64 2]) ?_ rfl (RNx.no HE.out (by omega) ?_)
    · simp [results, Try.results18, go_sem, kc2]
    · (refine bel_out ?_; (focus (repeat' first | (with_reducible refine bel_refl ?_) | with_reducible assumption | with_reducible refine bel_drew ?_ | with_reducible refine bel_drewN _ ?_ | with_reducible refine bel_alloc _ ?_ | with_reducible refine bel_set ?_ _ ?_ | (with_reducible apply bel_call; with_reducible assumption) | (with_reducible apply bel_owg; with_reducible assumption; (focus omega)) | with_reducible exact Nat.le_refl _ | omega | (simp; done) | (simp; omega))))
  · obtain ⟨g1, g2, g3⟩ := HN0.out HE.out
    refine bodyPost_ret (v := .tuple #[.agg #[.int .i64 (nSeq l : Int), .slice A3 n3 c3], .int .i64 (16 + (m : Int)), .int .i64 0]) ?_ rfl ⟨_, rfl, ⟨A3, n3, c3, by rw [g1, g2, HE.out]; rfl, ?_⟩, ?_⟩
    · simp [results, Try.results18, go_sem, kc3]
    · rw [g3]; apply OwB.mono; (focus (repeat' first | with_reducible assumption | (with_reducible apply OwB.drew) | (with_reducible apply OwB.drewN) | (with_reducible apply OwB.alloc) | (with_reducible apply OwB.stored) | (with_reducible apply OwB.set) | (with_reducible apply OwB.call; with_reducible assumption) | omega | (simp; done) | (simp; omega))); (focus (first | omega | (simp; done) | (simp; omega)))
    · (refine bel_out ?_; (focus (repeat' first | (with_reducible refine bel_refl ?_) | with_reducible assumption | with_reducible refine bel_drew ?_ | with_reducible refine bel_drewN _ ?_ | with_reducible refine bel_alloc _ ?_ | with_reducible refine bel_set ?_ _ ?_ | (with_reducible apply bel_call; with_reducible assumption) | (with_reducible apply bel_owg; with_reducible assumption; (focus omega)) | with_reducible exact Nat.le_refl _ | omega | (simp; done) | (simp; omega))))

set_option maxHeartbeats 1600000 in
theorem rnext_long (A : Option Addr) (n c : Nat) (l : List UInt8) (w : World) (hr : RdB w A n c l) (h1 : 16 ≤ n) (h2 : nLen l ≤ 65536) (h3 : 16 + nLen l ≤ n) :
    Calls Try.prog 32 #[.slice A n c] w (RNx w l) := by
  have hln := hr.len
  have hcap := hr.cap
  have hd : decide (n < 16) = false := by simp; omega
  have hp := hr.pre 4 (by omega)
  have hp12 := hr.pre 12 (by omega)
  have HP : Hid (∀ W : World, Below w.heap.size w W → RdB W A 4 c (l.take 4)) := fun W hW => hp.below hW
  have HP12 : Hid (∀ W : World, Below w.heap.size w W → RdB W A 12 c (l.take 12)) := fun W hW => hp12.below hW
  obtain ⟨A12, hs12, hr12⟩ := hr.cut elem_u8 size_u8 12 16 12 4 rfl rfl (by omega)
  obtain ⟨A4, hs4, hr4⟩ := hr.cut elem_u8 size_u8 4 12 4 8 rfl rfl (by omega)
  obtain ⟨A16, hs16, hr16⟩ := hr.cut elem_u8 size_u8 16 (16 + (nLen l : Int)) 16 (nLen l) rfl (by omega) h3
  have HP2 : Hid (∀ W : World, Below w.heap.size w W → RdB W A12 4 (c - 12) ((l.drop 12).take 4)) := fun W hW => hr12.below hW
  have HP3 : Hid (∀ W : World, Below w.heap.size w W → RdB W A4 8 (c - 4) ((l.drop 4).take 8)) := fun W hW => hr4.below hW
  have HP4 : Hid (∀ W : World, Below w.heap.size w W → RdB W A16 (nLen l) (c - 16) (nDat l)) := fun W hW => hr16.below hW
  have HM : Hid (val (l.take 4) = nLen l) := Lib.hid rfl
  have HC : Hid (val ((l.drop 12).take 4) = nChk l) := Lib.hid rfl
  have HS : Hid (val ((l.drop 4).take 8) = nSeq l) := Lib.hid rfl
  have hE : nxE l = if sumOk l = true then (if seqB (nSeq l) = true then 0 else 2) else 14 := by rw [nxE, if_neg (by omega), if_neg (by omega), if_neg (by omega)]
  have hways : (((((sumP (l.take 12 ++ nDat l)).toNat : Int) != (nChk l : Int)) = true) ∧ nxE l = 14) ∨ (((((sumP (l.take 12 ++ nDat l)).toNat : Int) != (nChk l : Int)) = false) ∧ (nSeq l : Int) < 1 ∧ nxE l = 2) ∨
      (((((sumP (l.take 12 ++ nDat l)).toNat : Int) != (nChk l : Int)) = false) ∧ ¬ (nSeq l : Int) < 1 ∧ 1073741824 < (nSeq l : Int) ∧ nxE l = 2) ∨ (((((sumP (l.take 12 ++ nDat l)).toNat : Int) != (nChk l : Int)) = false) ∧ ¬ (nSeq l : Int) < 1 ∧ ¬ 1073741824 < (nSeq l : Int) ∧ nxE l = 0) := by
    by_cases hk : (sumP (l.take 12 ++ nDat l)).toNat = nChk l
    · have hk1 : sumOk l = true := by rw [sumOk, decide_eq_true hk]
      have hk2 : (((sumP (l.take 12 ++ nDat l)).toNat : Int) != (nChk l : Int)) = false := by rw [hk]; simp
      rw [hE, if_pos hk1]
      by_cases hs1 : (nSeq l : Int) < 1
      · exact .inr (.inl ⟨hk2, hs1, by rw [if_neg (by simp [seqB]; omega)]⟩)
      · by_cases hs2 : 1073741824 < (nSeq l : Int)
        · exact .inr (.inr (.inl ⟨hk2, hs1, hs2, by rw [if_neg (by simp [seqB]; omega)]⟩))
        · exact .inr (.inr (.inr ⟨hk2, hs1, hs2, by rw [if_pos (by simp [seqB]; omega)]⟩))
    · refine .inl ⟨?_, ?_⟩
      · rw [bne_iff_ne]; omega
      · rw [hE, if_neg (by simp [sumOk, hk])]
  have hN0 : nxE l = 0 → nxN l = 16 + nLen l ∧ nxS l = nSeq l ∧ nxD l = nDat l := fun h => ⟨by rw [nxN, if_pos h], by rw [nxS, if_pos h], by rw [nxD, if_pos h]⟩
  have HN0 := Lib.hid hN0
  clear hp hp12 hr12 hr4 hr16 hln hE hN0
  generalize nLen l = m at *
  have hm1 : (m : Int) ≤ 65536 := by omega
  have hm2 : (16 : Int) + (m : Int) ≤ (n : Int) := by omega
  have hc4 : (4 : Int) ≤ (c : Int) := by omega
  have hc12 : (12 : Int) ≤ (c : Int) := by omega
  have hd2 : decide ((65536 : Int) < (m : Int)) = false := by simp; omega
  have hd3 : decide ((n : Int) < 16 + (m : Int)) = false := by simp; omega
  have hwq : IntKind.u64.wrap ((sumP (l.take 12 ++ nDat l)).toNat : Int) = ((sumP (l.take 12 ++ nDat l)).toNat : Int) := by have := UInt32.toNat_lt (sumP (l.take 12 ++ nDat l)); rw [IntKind.wrap_u64]; omega
  rcases hways with ⟨hq, he⟩ | ⟨hq, hs1, he⟩ | ⟨hq, hs1, hs2, he⟩ | ⟨hq, hs1, hs2, he⟩
  all_goals
    have HE := Lib.hid he
    clear he
    obtain ⟨i0, hi0, hz0', hz1', hz2'⟩ := u8_parts
    go_enter Try.func32, Try.ntmps32
    go_wp2_with (first
      | (go_at_call 45; (with_reducible refine (value_any A 4 c (l.take 4) _ ?_ ?_).mono ?_); (focus (refine HP.out _ ?_; (refine bel_out ?_; (focus (repeat' first | (with_reducible refine bel_refl ?_) | with_reducible assumption | with_reducible refine bel_drew ?_ | with_reducible refine bel_drewN _ ?_ | with_reducible refine bel_alloc _ ?_ | with_reducible refine bel_set ?_ _ ?_ | (with_reducible apply bel_call; with_reducible assumption) | (with_reducible apply bel_owg; with_reducible assumption; (focus omega)) | with_reducible exact Nat.le_refl _ | omega | (simp; done) | (simp; omega)))))); (focus omega); rintro e W1 ⟨rfl, rfl⟩; rw [HM.out])
      | (at_builtin; refine wpList_append_n _ rfl (.const (.slice none 0 0)) (.tmp 29) 22 rfl (w.heap.size + 1) 5 i0 Try.underlying22 hi0 hz0' hz1' hz2' rfl A16 m (c - 16) (nDat l) rfl ?_ ?_ ?_ ?_; (focus (refine HP4.out _ ?_; (refine bel_out ?_; (focus (repeat' first | (with_reducible refine bel_refl ?_) | with_reducible assumption | with_reducible refine bel_drew ?_ | with_reducible refine bel_drewN _ ?_ | with_reducible refine bel_alloc _ ?_ | with_reducible refine bel_set ?_ _ ?_ | (with_reducible apply bel_call; with_reducible assumption) | (with_reducible apply bel_owg; with_reducible assumption; (focus omega)) | with_reducible exact Nat.le_refl _ | omega | (simp; done) | (simp; omega)))))); (focus omega); (focus (simp; done)); intro A5 c5 w5 ho5 hg5; have hz5 : w.heap.size + 1 ≤ w5.heap.size := (by have := hg5.b.size; simp at this; omega)))
    have HB5 : Hid (Below w.heap.size w w5) := Lib.hid (by (refine bel_out ?_; (focus (repeat' first | (with_reducible refine bel_refl ?_) | with_reducible assumption | with_reducible refine bel_drew ?_ | with_reducible refine bel_drewN _ ?_ | with_reducible refine bel_alloc _ ?_ | with_reducible refine bel_set ?_ _ ?_ | (with_reducible apply bel_call; with_reducible assumption) | (with_reducible apply bel_owg; with_reducible assumption; (focus omega)) | with_reducible exact Nat.le_refl _ | omega | (simp; done) | (simp; omega)))))
    go_region_held3 (fun _ => True) ((exact trivial))
      (first
        | (go_at_call 15; go_must ((with_reducible refine (rsum_any A7 _ c7 (l.take 12 ++ nDat l) _ ?_).mono ?_); (focus (apply OwB.rd; (focus (repeat' first | with_reducible assumption | (with_reducible apply OwB.drew) | (with_reducible apply OwB.drewN) | (with_reducible apply OwB.alloc) | (with_reducible apply OwB.stored) | (with_reducible apply OwB.set) | (with_reducible apply OwB.call; with_reducible assumption) | omega | (simp; done) | (simp; omega))))); rintro e W1 ⟨rfl, rfl⟩))
        | (go_at_call 45; go_must ((with_reducible refine (value_any A12 4 (c - 12) ((l.drop 12).take 4) _ ?_ ?_).mono ?_); (focus (refine HP2.out _ ?_; (refine bel_out ?_; (focus (repeat' first | (with_reducible refine bel_refl ?_) | with_reducible assumption | with_reducible refine bel_drew ?_ | with_reducible refine bel_drewN _ ?_ | with_reducible refine bel_alloc _ ?_ | with_reducible refine bel_set ?_ _ ?_ | (with_reducible apply bel_call; with_reducible assumption) | (with_reducible apply bel_owg; with_reducible assumption; (focus omega)) | with_reducible exact Nat.le_refl _ | omega | (simp; done) | (simp; omega)))))); (focus omega); rintro e W1 ⟨rfl, rfl⟩; rw [HC.out]))
        | (refine step_append_n _ ?_ (.const (.slice none 0 0)) (.tmp 32) 22 ?_ (w.heap.size + 1) 5 i0 Try.underlying22 hi0 hz0' hz1' hz2' ?_ A 12 c (l.take 12) ?_ ?_ ?_ ?_ ?_; rfl; rfl; rfl; rfl; (focus (refine HP12.out _ ?_; (refine bel_out ?_; (focus (repeat' first | (with_reducible refine bel_refl ?_) | with_reducible assumption | with_reducible refine bel_drew ?_ | with_reducible refine bel_drewN _ ?_ | with_reducible refine bel_alloc _ ?_ | with_reducible refine bel_set ?_ _ ?_ | (with_reducible apply bel_call; with_reducible assumption) | (with_reducible apply bel_owg; with_reducible assumption; (focus omega)) | with_reducible exact Nat.le_refl _ | omega | (simp; done) | (simp; omega)))))); (focus omega); (focus (first | omega | (simp; omega) | (show _ ≤ Array.size (World.heap w5); omega))); intro A6 c6 w6 ho6 hg6; have hz6 : w5.heap.size ≤ w6.heap.size := hg6.b.size; have ho56 : OwB w6 (w.heap.size + 1) 5 A5 m c5 (nDat l) := OwB.call hg6.new (by (focus (repeat' first | with_reducible assumption | (with_reducible apply OwB.drew) | (with_reducible apply OwB.drewN) | (with_reducible apply OwB.alloc) | (with_reducible apply OwB.stored) | (with_reducible apply OwB.set) | (with_reducible apply OwB.call; with_reducible assumption) | omega | (simp; done) | (simp; omega)))))
        | (refine step_append_g _ ?_ (.tmp 33) (.tmp 34) 22 ?_ (w.heap.size + 1) 5 i0 Try.underlying22 hi0 hz0' hz1' hz2' A6 12 c6 (l.take 12) ?_ ho6 A5 m c5 (nDat l) ?_ ?_ ?_ ?_ ?_; rfl; rfl; rfl; rfl; (focus (apply OwB.rd; (focus (repeat' first | with_reducible assumption | (with_reducible apply OwB.drew) | (with_reducible apply OwB.drewN) | (with_reducible apply OwB.alloc) | (with_reducible apply OwB.stored) | (with_reducible apply OwB.set) | (with_reducible apply OwB.call; with_reducible assumption) | omega | (simp; done) | (simp; omega))))); (focus omega); (focus omega); intro A7 c7 w7 ho7 hg7))
    have hb2 : Below w5.heap.size w5 w7 := (OwG.trans (OwG.drew_left hg6) hg7).new
    have ho57 : OwB w7 (w.heap.size + 1) 5 A5 m c5 (nDat l) := OwB.call hb2 ho5
    have hh5 : w5.heap[w.heap.size]? = some (.cells #[.int .i64 0, .slice none 0 0] 24 (0, 0)) := (OwG.new hg5).block w.heap.size (by simp) ▸ (by (focus (repeat' first | with_reducible assumption | (with_reducible refine heap_drew ?_) | (with_reducible refine heap_drewN ?_) | (with_reducible refine heap_new ?_; focus (first | rfl | omega | (simp; done))) | (with_reducible refine heap_old ?_) | (with_reducible apply heap_near') | ((with_reducible show Array.setIfInBounds _ _ _ = _); rfl) | (with_reducible refine heap_far ?_ ?_; focus (first | omega | (simp; omega) | (simp; done))) | (with_reducible apply heap_grown; with_reducible assumption; (focus (first | omega | (simp; omega)))) | (with_reducible apply heap_call; with_reducible assumption))))
    obtain ⟨kc2, kf2, kz2, kh2⟩ := blk_cells hb2 (g := w.heap.size) (t := 24) (cs := #[.int .i64 0, .slice none 0 0]) (by (focus (repeat' first | with_reducible assumption | (with_reducible refine heap_drew ?_) | (with_reducible refine heap_drewN ?_) | (with_reducible refine heap_new ?_; focus (first | rfl | omega | (simp; done))) | (with_reducible refine heap_old ?_) | (with_reducible apply heap_near') | ((with_reducible show Array.setIfInBounds _ _ _ = _); rfl) | (with_reducible refine heap_far ?_ ?_; focus (first | omega | (simp; omega) | (simp; done))) | (with_reducible apply heap_grown; with_reducible assumption; (focus (first | omega | (simp; omega)))) | (with_reducible apply heap_call; with_reducible assumption))))
    go_wp2_with (first
      | (go_at_call 45; go_must ((with_reducible refine (value_any A4 8 (c - 4) ((l.drop 4).take 8) _ ?_ ?_).mono ?_); (focus (refine HP3.out _ ?_; (refine bel_out ?_; (focus (repeat' first | (with_reducible refine bel_refl ?_) | with_reducible assumption | with_reducible refine bel_drew ?_ | with_reducible refine bel_drewN _ ?_ | with_reducible refine bel_alloc _ ?_ | with_reducible refine bel_set ?_ _ ?_ | (with_reducible apply bel_call; with_reducible assumption) | (with_reducible apply bel_owg; with_reducible assumption; (focus omega)) | with_reducible exact Nat.le_refl _ | omega | (simp; done) | (simp; omega)))))); (focus omega); rintro e W1 ⟨rfl, rfl⟩; rw [HS.out])))
  · refine bodyPost_ret (v := .tuple #[.agg #[.int .i64 0, .slice none 0 0], .int .i64 0, .int .i64 14]) ?_ rfl (RNx.no HE.out (by omega) ?_)
    · simp [results, Try.results32, go_sem, kc2]
    · (refine bel_out ?_; (focus (repeat' first | (with_reducible refine bel_refl ?_) | with_reducible assumption | with_reducible refine bel_drew ?_ | with_reducible refine bel_drewN _ ?_ | with_reducible refine bel_alloc _ ?_ | with_reducible refine bel_set ?_ _ ?_ | (with_reducible apply bel_call; with_reducible assumption) | (with_reducible apply bel_owg; with_reducible assumption; (focus omega)) | with_reducible exact Nat.le_refl _ | omega | (simp; done) | (simp; omega))))
  · refine bodyPost_ret (v := .tuple #[.agg #[.int .i64 0, .slice none 0 0], .int .i64 0, .int .i64 2]) ?_ rfl (RNx.no HE.out (by omega) ?_)
    · simp [results, Try.results32, go_sem, kc2]
    · (refine bel_out ?_; (focus (repeat' first | (with_reducible refine bel_refl ?_) | with_reducible assumption | with_reducible refine bel_drew ?_ | with_reducible refine bel_drewN _ ?_ | with_reducible refine bel_alloc _ ?_ | with_reducible refine bel_set ?_ _ ?_ | (with_reducible apply bel_call; with_reducible assumption) | (with_reducible apply bel_owg; with_reducible assumption; (focus omega)) | with_reducible exact Nat.le_refl _ | omega | (simp; done) | (simp; omega))))
  · refine bodyPost_ret (v := .tuple #[.agg #[.int .i64 0, .slice none 0 0], .int .i64 0, .int .i64 2]) ?_ rfl (RNx.no HE.out (by omega) ?_)
    · simp [results, Try.results32, go_sem, kc2]
    · (refine bel_out ?_; (focus (repeat' first | (with_reducible refine bel_refl ?_) | with_reducible assumption | with_reducible refine bel_drew ?_ | with_reducible refine bel_drewN _ ?_ | with_reducible refine bel_alloc _ ?_ | with_reducible refine bel_set ?_ _ ?_ | (with_reducible apply bel_call; with_reducible assumption) | (with_reducible apply bel_owg; with_reducible assumption; (focus omega)) | with_reducible exact Nat.le_refl _ | omega | (simp; done) | (simp; omega))))
  · obtain ⟨g1, g2, g3⟩ := HN0.out HE.out
    refine bodyPost_ret (v := .tuple #[.agg #[.int .i64 (nSeq l : Int), .slice A5 m c5], .int .i64 (16 + (m : Int)), .int .i64 0]) ?_ rfl ⟨_, rfl, ⟨A5, m, c5, by rw [g1, g2, HE.out]; rfl, ?_⟩, ?_⟩
    · simp [results, Try.results32, go_sem, kc2]
    · rw [g3]; exact OwB.mono (OwB.set (OwB.set ho57 (by simp)) (by simp)) (by omega)
    · (refine bel_out ?_; (focus (repeat' first | (with_reducible refine bel_refl ?_) | with_reducible assumption | with_reducible refine bel_drew ?_ | with_reducible refine bel_drewN _ ?_ | with_reducible refine bel_alloc _ ?_ | with_reducible refine bel_set ?_ _ ?_ | (with_reducible apply bel_call; with_reducible assumption) | (with_reducible apply bel_owg; with_reducible assumption; (focus omega)) | with_reducible exact Nat.le_refl _ | omega | (simp; done) | (simp; omega))))

theorem next_any (A : Option Addr) (n c : Nat) (l : List UInt8) (w : World) (hr : RdB w A n c l) : Calls Try.prog 18 #[.slice A n c] w (RNx w l) := by
  by_cases h : n < 16 ∨ 65536 < nLen l ∨ n < 16 + nLen l
  · exact next_short A n c l w hr h
  · exact next_long A n c l w hr (by omega) (by omega) (by omega)
theorem rnext_any (A : Option Addr) (n c : Nat) (l : List UInt8) (w : World) (hr : RdB w A n c l) : Calls Try.prog 32 #[.slice A n c] w (RNx w l) := by
  by_cases h : n < 16 ∨ 65536 < nLen l ∨ n < 16 + nLen l
  · exact rnext_short A n c l w hr h
  · exact rnext_long A n c l w hr (by omega) (by omega) (by omega)
theorem frame_any (s : Int) (A : Option Addr) (n c : Nat) (d : List UInt8) (w : World) (hr : RdB w A n c d) : Calls Try.prog 12 #[.agg #[.int .i64 s, .slice A n c]] w (RFrame w (frL s d) (frE s d)) := by
  have hl := hr.len
  cases h : seqB s with
  | false =>
    have e1 : frL s d = [] := by simp [frL, h]
    have e2 : frE s d = 2 := by simp [frE, h]
    rw [e1, e2]; exact frame_no s A n c d w h
  | true =>
    by_cases hn : 65536 < n
    · have e1 : frL s d = [] := by simp [frL, h, ← hl, hn]
      have e2 : frE s d = 3 := by simp [frE, h, ← hl, hn]
      rw [e1, e2]; exact frame_big s A n c d w h hn
    · have e1 : frL s d = frameB s.toNat d := by simp [frL, h, ← hl, hn]
      have e2 : frE s d = 0 := by simp [frE, h, ← hl, hn]
      have hs : 1 ≤ s ∧ s ≤ 1073741824 := by simpa [seqB] using h
      have e3 : s = (s.toNat : Int) := by omega
      rw [e1, e2]
      have := frame_ok s.toNat A n c d w hr (by omega) (by omega) (by omega)
      rw [← e3] at this
      exact this
theorem rframe_any (s : Int) (A : Option Addr) (n c : Nat) (d : List UInt8) (w : World) (hr : RdB w A n c d) : Calls Try.prog 13 #[.agg #[.int .i64 s, .slice A n c]] w (RFrame w (frL s d) (frE s d)) := by
  have hl := hr.len
  cases h : seqB s with
  | false =>
    have e1 : frL s d = [] := by simp [frL, h]
    have e2 : frE s d = 2 := by simp [frE, h]
    rw [e1, e2]; exact rframe_no s A n c d w h
  | true =>
    by_cases hn : 65536 < n
    · have e1 : frL s d = [] := by simp [frL, h, ← hl, hn]
      have e2 : frE s d = 3 := by simp [frE, h, ← hl, hn]
      rw [e1, e2]; exact rframe_big s A n c d w h hn
    · have e1 : frL s d = frameB s.toNat d := by simp [frL, h, ← hl, hn]
      have e2 : frE s d = 0 := by simp [frE, h, ← hl, hn]
      have hs : 1 ≤ s ∧ s ≤ 1073741824 := by simpa [seqB] using h
      have e3 : s = (s.toNat : Int) := by omega
      rw [e1, e2]
      have := rframe_ok s.toNat A n c d w hr (by omega) (by omega) (by omega)
      rw [← e3] at this
      exact this

end Go.Proofs.Ytaagmiidapammaa
