/- The walks of Scan. -/
import Derived.Test.YtaagmiidapammaaJ9
import Derived.Test.YtaagmiidapammaaGr
namespace Go.Proofs.Ytaagmiidapammaa
open Go.RowKit
set_option linter.unusedSimpArgs false
set_option linter.unusedVariables false

def RecR (w : World) (a : Nat × List UInt8) (xs : List Value) : Prop := ∃ A n c, xs = [.int .i64 (a.1 : Int), .slice A n c] ∧ RdB w A n c a.2 ∧ TyB w 5 A
theorem RecR.stay : Stay RecR 5 := by
  refine ⟨?_, ?_⟩
  · rintro w w' a xs hb ⟨A, n, c, e, h1, h2⟩
    exact ⟨A, n, c, e, h1.below hb, h2.below hb⟩
  · rintro w w' a xs row hg hr ⟨A, n, c, e, h1, h2⟩
    exact ⟨A, n, c, e, h1.grownT h2 hg hr, (h2.grown hg hr).1⟩
theorem info_rec : (Try.prog.info? 24).map (fun i => (i.zero, i.size, i.bytes)) = some (some (.agg #[.int .i64 0, .slice none 0 0]), 2, 32) := by kernel_rfl

def RNxV (w : World) (S N : Nat) (X : Int) (D : List UInt8) : Ending → World → Prop := Ret w fun v w' => ∃ A n c, v = .tuple #[.agg #[.int .i64 (S : Int), .slice A n c], .int .i64 (N : Int), .int .i64 X] ∧ OwB w' w.heap.size 5 A n c D
/-- what Scan has found so far, and what is still to come -/
def ScanAt (l : List UInt8) (first : Int) (L : List (Nat × List UInt8)) (pos : Nat) : Prop :=
  ∃ f, l.length - pos < f ∧ pos ≤ l.length ∧ 16 * L.length ≤ pos ∧ (L = [] ∨ first + L.length ≤ 1073741825) ∧
    scan (l.length + 1) l first = (L ++ (scan f (l.drop pos) (first + L.length)).1, pos + (scan f (l.drop pos) (first + L.length)).2)
theorem ScanAt.start (l : List UInt8) (first : Int) : ScanAt l first [] 0 := ⟨l.length + 1, by omega, Nat.zero_le _, by simp, .inl rfl, by simp⟩
theorem ScanAt.stop {l : List UInt8} {first : Int} {L : List (Nat × List UInt8)} {pos : Nat} (h : ScanAt l first L pos) (hn : ¬ (nxE (l.drop pos) = 0 ∧ (nxS (l.drop pos) : Int) = first + L.length)) : scan (l.length + 1) l first = (L, pos) := by
  obtain ⟨f, h1, h2, h3, h4, h5⟩ := h
  cases f with
  | zero => omega
  | succ f =>
    rw [h5, scan, if_neg hn]
    simp
theorem ScanAt.step {l : List UInt8} {first : Int} {L : List (Nat × List UInt8)} {pos : Nat} (h : ScanAt l first L pos) (hE : nxE (l.drop pos) = 0) (hS : (nxS (l.drop pos) : Int) = first + L.length) :
    ScanAt l first (L ++ [(nxS (l.drop pos), nxD (l.drop pos))]) (pos + nxN (l.drop pos)) := by
  obtain ⟨f, h1, h2, h3, h4, h5⟩ := h
  obtain ⟨k1, k2, k3, k4, k5⟩ := nx_ok hE
  have hN : nxN (l.drop pos) = 16 + nLen (l.drop pos) := by rw [nxN, if_pos hE]
  have hSq : nxS (l.drop pos) = nSeq (l.drop pos) := by rw [nxS, if_pos hE]
  have hsq : (nSeq (l.drop pos) : Int) ≤ 1073741824 := by simp [seqB] at k5; omega
  rw [List.length_drop] at k3
  cases f with
  | zero => omega
  | succ f =>
    refine ⟨f, by omega, by omega, by rw [List.length_append, List.length_singleton]; omega, .inr (by rw [List.length_append, List.length_singleton]; omega), ?_⟩
    rw [h5, scan, if_pos ⟨hE, hS⟩, List.drop_drop]
    simp [Nat.add_assoc, Int.add_assoc]

def RScan (w : World) (r : List (Nat × List UInt8) × Nat) : Ending → World → Prop := Ret w fun v w' => ∃ A n c, v = .tuple #[.slice A n c, .int .i64 (r.2 : Int)] ∧ OwR RecR 2 w' w.heap.size 24 A n c r.1

set_option maxRecDepth 100000 in
set_option maxHeartbeats 1600000 in
theorem scan_any (A : Option Addr) (n c : Nat) (l : List UInt8) (first : Int) (w : World) (hr : RdB w A n c l) (hn : n ≤ 1048576) (hf : -9223372036854775808 ≤ first ∧ first ≤ 9223372036854775807) :
    Calls Try.prog 33 #[.slice A n c, .int .i64 first] w (RScan w (scan (n + 1) l first)) := by
  obtain ⟨i1, hi1, hz1, hs1, hb1⟩ := info_parts info_rec
  have hln := hr.len
  subst hln
  have HF := Lib.hid hf
  clear hf
  go_enter Try.func33, Try.ntmps33
  go_wp2
  go_loopw [6, 7] (fun v i wr => ∃ (pos : Nat) (Al : Option Addr) (nl cl : Nat) (L : List (Nat × List UInt8)), i = .int .i64 pos ∧ v = .slice Al nl cl ∧ OwR RecR 2 wr w.heap.size 24 Al nl cl L ∧ Below w.heap.size w wr ∧ ScanAt l first L pos) (fun _ i _ => l.length - (intOf i).toNat)
  case atStart => exact ⟨0, none, 0, 0, [], rfl, rfl, OwR.nil _ _ _ _ _, Below.refl _ _, ScanAt.start _ _⟩
  case round =>
    obtain ⟨pos, Al, nl, cl, L, rfl, rfl, ho, hb, hsc⟩ := hrel
    obtain rfl : nl = L.length := ho.len
    have hpos : pos ≤ l.length ∧ 16 * L.length ≤ pos ∧ (L = [] ∨ first + L.length ≤ 1073741825) := by obtain ⟨f, h1, h2, h3, h4, h5⟩ := hsc; exact ⟨h2, h3, h4⟩
    obtain ⟨hp1, hp2, hp3⟩ := hpos
    obtain ⟨A', hs, hrA⟩ := hr.cutL elem_u8 size_u8 (pos : Int) pos rfl hp1
    have HNX : Hid (Calls Try.prog 18 #[.slice A' (l.length - pos) (c - pos)] wr (RNxV wr (nxS (l.drop pos)) (nxN (l.drop pos)) (nxE (l.drop pos)) (nxD (l.drop pos)))) := Lib.hid (next_any A' (l.length - pos) (c - pos) (l.drop pos) wr (hrA.below hb))
    have hw : wrap64 (first + (L.length : Int)) = first + (L.length : Int) := by
      have := HF.out
      unfold wrap64
      rcases hp3 with h | h
      · subst h; simp; omega
      · omega
    clear hrA hp3
    by_cases hc : nxE (l.drop pos) = 0 ∧ (nxS (l.drop pos) : Int) = first + L.length
    · obtain ⟨hE, hS⟩ := hc
      have hst := hsc.step hE hS
      obtain ⟨k1, k2, k3, -, -⟩ := nx_ok hE
      have hN : nxN (l.drop pos) = 16 + nLen (l.drop pos) := by rw [nxN, if_pos hE]
      rw [List.length_drop] at k3
      have hpN : pos + nxN (l.drop pos) ≤ l.length := by omega
      have hN16 : 16 ≤ nxN (l.drop pos) := by omega
      have HE := Lib.hid hE
      have HST := Lib.hid hst
      have hq : ((nxS (l.drop pos) : Int) != first + (L.length : Int)) = false := by rw [hS]; simp
      clear hsc hE hS hst k1 k2 k3 hN
      generalize nxS (l.drop pos) = S at *
      generalize nxN (l.drop pos) = N at *
      generalize nxD (l.drop pos) = D at *
      generalize hX : nxE (l.drop pos) = X at *
      have hX0 : X = 0 := HE.out
      subst hX0
      clear HE hX
      go_wp2_with (first
        | (go_at_call 18; go_must (refine HNX.out.mono ?_; rintro e w2 ⟨v2, rfl, ⟨A2, n2, c2, rfl, ho2⟩, hb2⟩))
        | (at_builtin; go_must (refine wpList_append_r _ rfl (.tmp 32) (.tmp 34) 49 rfl 2 32 w.heap.size 24 i1 (.agg #[.int .i64 0, .slice none 0 0]) RecR.stay (by decide) Try.underlying49 hi1 hz1 hs1 hb1 rfl (by omega) Al L.length cl L rfl ?_ (some ⟨w2.heap.size + 1, 0, none⟩) 1 1 rfl [(S, D)] [.int .i64 (S : Int), .slice A2 n2 c2] ?_ ?_ rfl ?_ ?_ ?_ ?_ ?_; (focus (refine OwR.call RecR.stay ho ?_; (refine bel_out ?_; (focus (repeat' first | (with_reducible refine bel_refl ?_) | with_reducible assumption | with_reducible refine bel_drew ?_ | with_reducible refine bel_drewN _ ?_ | with_reducible refine bel_alloc _ ?_ | with_reducible refine bel_set ?_ _ ?_ | (with_reducible apply bel_call; with_reducible assumption) | (with_reducible apply bel_owg; with_reducible assumption; (focus omega)) | with_reducible exact Nat.le_refl _ | omega | (simp; done) | (simp; omega)))))); (focus (exact Reads.litAt (cs := #[.int .i64 (S : Int), .slice A2 n2 c2]) (size_alloc_ _ _).symm rfl)); (focus (refine Fits.one rfl ⟨A2, n2, c2, rfl, ?_, ?_⟩)); (focus (exact (ho2.rd.alloc _).alloc _)); (focus (exact (ho2.ty.below ((Below.refl _ _).alloc (Nat.le_refl _) _)).below ((Below.refl _ _).alloc (Nat.le_refl _) _))); (focus (simp [Value.oneCell'])); (focus (unfold maxLen; omega)); (focus omega); (focus (have h1 := hb.size; have h2 := hb2.size; simp; omega)); intro A3 c3 w3 ho3 hg3)))
      go_roundw
      case rel => exact ⟨pos + N, A3, L.length + 1, c3, _, by go_num, rfl, ho3, by (refine bel_out ?_; (focus (repeat' first | (with_reducible refine bel_refl ?_) | with_reducible assumption | with_reducible refine bel_drew ?_ | with_reducible refine bel_drewN _ ?_ | with_reducible refine bel_alloc _ ?_ | with_reducible refine bel_set ?_ _ ?_ | (with_reducible apply bel_call; with_reducible assumption) | (with_reducible apply bel_owg; with_reducible assumption; (focus omega)) | with_reducible exact Nat.le_refl _ | omega | (simp; done) | (simp; omega)))), HST.out⟩
      case measure => simp [intOf]; omega
    · have HSC := Lib.hid (hsc.stop hc)
      have hways : ((nxE (l.drop pos) != 0) = true) ∨ (nxE (l.drop pos) = 0 ∧ ((nxS (l.drop pos) : Int) != first + (L.length : Int)) = true) := by
        by_cases h0 : nxE (l.drop pos) = 0
        · exact .inr ⟨h0, by rw [bne_iff_ne]; exact fun h => hc ⟨h0, h⟩⟩
        · exact .inl (by rw [bne_iff_ne]; exact h0)
      clear hsc hc
      generalize nxS (l.drop pos) = S at *
      generalize nxN (l.drop pos) = N at *
      generalize nxD (l.drop pos) = D at *
      generalize nxE (l.drop pos) = X at *
      rcases hways with hX | ⟨rfl, hX⟩
      all_goals
        go_wp2_with (go_at_call 18; go_must (refine HNX.out.mono ?_; rintro e w2 ⟨v2, rfl, ⟨A2, n2, c2, rfl, ho2⟩, hb2⟩))
        go_ret2
        refine ⟨_, rfl, ⟨Al, L.length, cl, by rw [HSC.out]; rfl, ?_⟩, ?_⟩
        · rw [HSC.out]
          refine OwR.call RecR.stay ho ?_
          (refine bel_out ?_; (focus (repeat' first | (with_reducible refine bel_refl ?_) | with_reducible assumption | with_reducible refine bel_drew ?_ | with_reducible refine bel_drewN _ ?_ | with_reducible refine bel_alloc _ ?_ | with_reducible refine bel_set ?_ _ ?_ | (with_reducible apply bel_call; with_reducible assumption) | (with_reducible apply bel_owg; with_reducible assumption; (focus omega)) | with_reducible exact Nat.le_refl _ | omega | (simp; done) | (simp; omega))))
        · (refine bel_out ?_; (focus (repeat' first | (with_reducible refine bel_refl ?_) | with_reducible assumption | with_reducible refine bel_drew ?_ | with_reducible refine bel_drewN _ ?_ | with_reducible refine bel_alloc _ ?_ | with_reducible refine bel_set ?_ _ ?_ | (with_reducible apply bel_call; with_reducible assumption) | (with_reducible apply bel_owg; with_reducible assumption; (focus omega)) | with_reducible exact Nat.le_refl _ | omega | (simp; done) | (simp; omega))))

set_option maxRecDepth 100000 in
set_option maxHeartbeats 1600000 in
theorem rscan_any (A : Option Addr) (n c : Nat) (l : List UInt8) (first : Int) (w : World) (hr : RdB w A n c l) (hn : n ≤ 1048576) (hf : -9223372036854775808 ≤ first ∧ first ≤ 9223372036854775807) :
    Calls Try.prog 34 #[.slice A n c, .int .i64 first] w (RScan w (scan (n + 1) l first)) := by
  obtain ⟨i1, hi1, hz1, hs1, hb1⟩ := info_parts info_rec
  have hln := hr.len
  subst hln
  have HF := Lib.hid hf
  clear hf
  go_enter Try.func34, Try.ntmps34
  go_wp2
  go_loopw [6, 7] (fun v i wr => ∃ (pos : Nat) (Al : Option Addr) (nl cl : Nat) (L : List (Nat × List UInt8)), i = .int .i64 pos ∧ v = .slice Al nl cl ∧ OwR RecR 2 wr w.heap.size 24 Al nl cl L ∧ Below w.heap.size w wr ∧ ScanAt l first L pos) (fun _ i _ => l.length - (intOf i).toNat)
  case atStart => exact ⟨0, none, 0, 0, [], rfl, rfl, OwR.nil _ _ _ _ _, Below.refl _ _, ScanAt.start _ _⟩
  case round =>
    obtain ⟨pos, Al, nl, cl, L, rfl, rfl, ho, hb, hsc⟩ := hrel
    obtain rfl : nl = L.length := ho.len
    have hpos : pos ≤ l.length ∧ 16 * L.length ≤ pos ∧ (L = [] ∨ first + L.length ≤ 1073741825) := by obtain ⟨f, h1, h2, h3, h4, h5⟩ := hsc; exact ⟨h2, h3, h4⟩
    obtain ⟨hp1, hp2, hp3⟩ := hpos
    obtain ⟨A', hs, hrA⟩ := hr.cutL elem_u8 size_u8 (pos : Int) pos rfl hp1
    have HNX : Hid (Calls Try.prog 32 #[.slice A' (l.length - pos) (c - pos)] wr (RNxV wr (nxS (l.drop pos)) (nxN (l.drop pos)) (nxE (l.drop pos)) (nxD (l.drop pos)))) := Lib.hid (rnext_any A' (l.length - pos) (c - pos) (l.drop pos) wr (hrA.below hb))
    have hS30 : nxS (l.drop pos) ≤ 1073741824 := by
      by_cases h0 : nxE (l.drop pos) = 0
      · obtain ⟨-, -, -, -, k5⟩ := nx_ok h0
        rw [nxS, if_pos h0]; simp [seqB] at k5; omega
      · rw [nxS, if_neg h0]; omega
    have hw : wrap64 ((nxS (l.drop pos) : Int) - (L.length : Int)) = (nxS (l.drop pos) : Int) - (L.length : Int) := by
      unfold wrap64
      omega
    clear hS30
    clear hrA hp3
    by_cases hc : nxE (l.drop pos) = 0 ∧ (nxS (l.drop pos) : Int) = first + L.length
    · obtain ⟨hE, hS⟩ := hc
      have hst := hsc.step hE hS
      obtain ⟨k1, k2, k3, -, -⟩ := nx_ok hE
      have hN : nxN (l.drop pos) = 16 + nLen (l.drop pos) := by rw [nxN, if_pos hE]
      rw [List.length_drop] at k3
      have hpN : pos + nxN (l.drop pos) ≤ l.length := by omega
      have hN16 : 16 ≤ nxN (l.drop pos) := by omega
      have HE := Lib.hid hE
      have HST := Lib.hid hst
      have hq : ((nxS (l.drop pos) : Int) - (L.length : Int) != first) = false := by rw [hS]; simp
      clear hsc hE hS hst k1 k2 k3 hN
      generalize nxS (l.drop pos) = S at *
      generalize nxN (l.drop pos) = N at *
      generalize nxD (l.drop pos) = D at *
      generalize hX : nxE (l.drop pos) = X at *
      have hX0 : X = 0 := HE.out
      subst hX0
      clear HE hX
      go_wp2_with (first
        | (go_at_call 32; go_must (refine HNX.out.mono ?_; rintro e w2 ⟨v2, rfl, ⟨A2, n2, c2, rfl, ho2⟩, hb2⟩))
        | (at_builtin; go_must (refine wpList_append_r _ rfl (.tmp 32) (.tmp 34) 49 rfl 2 32 w.heap.size 24 i1 (.agg #[.int .i64 0, .slice none 0 0]) RecR.stay (by decide) Try.underlying49 hi1 hz1 hs1 hb1 rfl (by omega) Al L.length cl L rfl ?_ (some ⟨w2.heap.size + 1, 0, none⟩) 1 1 rfl [(S, D)] [.int .i64 (S : Int), .slice A2 n2 c2] ?_ ?_ rfl ?_ ?_ ?_ ?_ ?_; (focus (refine OwR.call RecR.stay ho ?_; (refine bel_out ?_; (focus (repeat' first | (with_reducible refine bel_refl ?_) | with_reducible assumption | with_reducible refine bel_drew ?_ | with_reducible refine bel_drewN _ ?_ | with_reducible refine bel_alloc _ ?_ | with_reducible refine bel_set ?_ _ ?_ | (with_reducible apply bel_call; with_reducible assumption) | (with_reducible apply bel_owg; with_reducible assumption; (focus omega)) | with_reducible exact Nat.le_refl _ | omega | (simp; done) | (simp; omega)))))); (focus (exact Reads.litAt (cs := #[.int .i64 (S : Int), .slice A2 n2 c2]) (size_alloc_ _ _).symm rfl)); (focus (refine Fits.one rfl ⟨A2, n2, c2, rfl, ?_, ?_⟩)); (focus (exact (ho2.rd.alloc _).alloc _)); (focus (exact (ho2.ty.below ((Below.refl _ _).alloc (Nat.le_refl _) _)).below ((Below.refl _ _).alloc (Nat.le_refl _) _))); (focus (simp [Value.oneCell'])); (focus (unfold maxLen; omega)); (focus omega); (focus (have h1 := hb.size; have h2 := hb2.size; simp; omega)); intro A3 c3 w3 ho3 hg3)))
      go_roundw
      case rel => exact ⟨pos + N, A3, L.length + 1, c3, _, by go_num, rfl, ho3, by (refine bel_out ?_; (focus (repeat' first | (with_reducible refine bel_refl ?_) | with_reducible assumption | with_reducible refine bel_drew ?_ | with_reducible refine bel_drewN _ ?_ | with_reducible refine bel_alloc _ ?_ | with_reducible refine bel_set ?_ _ ?_ | (with_reducible apply bel_call; with_reducible assumption) | (with_reducible apply bel_owg; with_reducible assumption; (focus omega)) | with_reducible exact Nat.le_refl _ | omega | (simp; done) | (simp; omega)))), HST.out⟩
      case measure => simp [intOf]; omega
    · have HSC := Lib.hid (hsc.stop hc)
      have hways : ((nxE (l.drop pos) != 0) = true) ∨ (nxE (l.drop pos) = 0 ∧ ((nxS (l.drop pos) : Int) - (L.length : Int) != first) = true) := by
        by_cases h0 : nxE (l.drop pos) = 0
        · exact .inr ⟨h0, by rw [bne_iff_ne]; exact fun h => hc ⟨h0, by omega⟩⟩
        · exact .inl (by rw [bne_iff_ne]; exact h0)
      clear hsc hc
      generalize nxS (l.drop pos) = S at *
      generalize nxN (l.drop pos) = N at *
      generalize nxD (l.drop pos) = D at *
      generalize nxE (l.drop pos) = X at *
      rcases hways with hX | ⟨rfl, hX⟩
      all_goals
        go_wp2_with (go_at_call 32; go_must (refine HNX.out.mono ?_; rintro e w2 ⟨v2, rfl, ⟨A2, n2, c2, rfl, ho2⟩, hb2⟩))
        go_ret2
        refine ⟨_, rfl, ⟨Al, L.length, cl, by rw [HSC.out]; rfl, ?_⟩, ?_⟩
        · rw [HSC.out]
          refine OwR.call RecR.stay ho ?_
          (refine bel_out ?_; (focus (repeat' first | (with_reducible refine bel_refl ?_) | with_reducible assumption | with_reducible refine bel_drew ?_ | with_reducible refine bel_drewN _ ?_ | with_reducible refine bel_alloc _ ?_ | with_reducible refine bel_set ?_ _ ?_ | (with_reducible apply bel_call; with_reducible assumption) | (with_reducible apply bel_owg; with_reducible assumption; (focus omega)) | with_reducible exact Nat.le_refl _ | omega | (simp; done) | (simp; omega))))
        · (refine bel_out ?_; (focus (repeat' first | (with_reducible refine bel_refl ?_) | with_reducible assumption | with_reducible refine bel_drew ?_ | with_reducible refine bel_drewN _ ?_ | with_reducible refine bel_alloc _ ?_ | with_reducible refine bel_set ?_ _ ?_ | (with_reducible apply bel_call; with_reducible assumption) | (with_reducible apply bel_owg; with_reducible assumption; (focus omega)) | with_reducible exact Nat.le_refl _ | omega | (simp; done) | (simp; omega))))

end Go.Proofs.Ytaagmiidapammaa
