/- The walks of package disk and of its reference: Write, Sync, Cut, Crash. -/
import Derived.Test.YtaagmiidapammaaDisk
namespace Go.Proofs.Ytaagmiidapammaa
open Go.RowKit
set_option linter.unusedSimpArgs false
set_option linter.unusedVariables false

/-- a disk value that the call made or was handed -/
def DiskV (w : World) (v : Value) (l : List UInt8) (s : Int) : Prop := ∃ A n c, v = .agg #[.slice A n c, .int .i64 s] ∧ RdB w A n c l

/-- a disk value in memory that the call made -/
def DiskO (w : World) (base : Nat) (v : Value) (l : List UInt8) (s : Int) : Prop := ∃ A n c, v = .agg #[.slice A n c, .int .i64 s] ∧ OwB w base 5 A n c l

def RDiskE (w : World) (l : List UInt8) (s : Int) (err : Int) : Ending → World → Prop := Ret w fun v w' => ∃ d, v = .tuple #[d, .int .i64 err] ∧ DiskO w' w.heap.size d l s

def tooB (n m : Nat) : Bool := decide (1048576 - (n : Int) < (m : Int))
def wrL (l : List UInt8) (s : Int) (l2 : List UInt8) : List UInt8 := if validB l.length s = true then (if tooB l.length l2.length = true then [] else l ++ l2) else []
def wrS (l : List UInt8) (s : Int) (l2 : List UInt8) : Int := if validB l.length s = true then (if tooB l.length l2.length = true then 0 else s) else 0
def wrE (l : List UInt8) (s : Int) (l2 : List UInt8) : Int := if validB l.length s = true then (if tooB l.length l2.length = true then 3 else 0) else 11

theorem valid_le {n : Nat} {s : Int} (h : validB n s = true) : 0 ≤ s ∧ s ≤ n ∧ n ≤ 1048576 := by simpa [validB] using h

theorem rows_two {w : World} {A A2 : Option Addr} {n c n2 c2 g : Nat} {l l2 : List UInt8} (h : RdB w A n c l) (h2 : RdB w A2 n2 c2 l2)
    (hc : w.cell? ⟨g, 0, none⟩ = some (.slice A n c)) (hc2 : w.cell? ⟨g, 1, none⟩ = some (.slice A2 n2 c2)) : RowsB w g [l, l2] := by
  refine ⟨World.block_lt_of_cell? w _ hc, fun k x hx => ?_⟩
  match k, hx with
  | 0, hx => simp at hx; subst hx; exact ⟨A, n, c, hc, h⟩
  | 1, hx => simp at hx; subst hx; exact ⟨A2, n2, c2, hc2, h2⟩
theorem cat_two (l l2 : List UInt8) : cat [l, l2] 2 = l ++ l2 := by simp [cat]

set_option maxHeartbeats 800000 in
theorem write_any (A : Option Addr) (n c : Nat) (l : List UInt8) (s : Int) (A2 : Option Addr) (n2 c2 : Nat) (l2 : List UInt8) (w : World) (hr : RdB w A n c l) (hr2 : RdB w A2 n2 c2 l2) :
    Calls Try.prog 43 #[.agg #[.slice A n c, .int .i64 s], .slice A2 n2 c2] w (RDiskE w (wrL l s l2) (wrS l s l2) (wrE l s l2)) := by
  have hln := hr.len
  have hln2 := hr2.len
  cases hv : validB n s with
  | false =>
    have e1 : wrL l s l2 = [] := by simp [wrL, ← hln, hv]
    have e2 : wrS l s l2 = 0 := by simp [wrS, ← hln, hv]
    have e3 : wrE l s l2 = 11 := by simp [wrE, ← hln, hv]
    rw [e1, e2, e3]
    clear e1 e2 e3 hln hln2
    go_enter Try.func43, Try.ntmps43
    go_wp2_with (go_at_call 37; refine (valid_any _ _ _ _ _).mono ?_; rintro e w1 ⟨rfl, hb1⟩; obtain ⟨hc1, hf1⟩ := bcell hb1)
    refine bodyPost_ret (v := .tuple #[.agg #[.slice none 0 0, .int .i64 0], .int .i64 11]) ?_ rfl ⟨_, rfl, ⟨_, rfl, ⟨_, _, _, rfl, OwB.nil _ _ _⟩⟩, ?_⟩
    · simp [results, Try.results43, go_sem, hc1]
    · exact ((below_call (((Below.refl _ _).alloc (Nat.le_refl _) _).alloc (by simp) _) hb1).setCell (by simp) _).setCell (by simp) _
  | true =>
    obtain ⟨v1, v2, v3⟩ := valid_le hv
    cases ht : tooB n n2 with
    | true =>
      have e1 : wrL l s l2 = [] := by simp [wrL, ← hln, ← hln2, hv, ht]
      have e2 : wrS l s l2 = 0 := by simp [wrS, ← hln, ← hln2, hv, ht]
      have e3 : wrE l s l2 = 3 := by simp [wrE, ← hln, ← hln2, hv, ht]
      rw [e1, e2, e3]
      have ht' : decide (1048576 - (n : Int) < (n2 : Int)) = true := ht
      clear e1 e2 e3 hln hln2 ht
      go_enter Try.func43, Try.ntmps43
      go_wp2_with (go_at_call 37; refine (valid_any _ _ _ _ _).mono ?_; rintro e w1 ⟨rfl, hb1⟩; obtain ⟨hc1, hf1⟩ := bcell hb1)
      refine bodyPost_ret (v := .tuple #[.agg #[.slice none 0 0, .int .i64 0], .int .i64 3]) ?_ rfl ⟨_, rfl, ⟨_, rfl, ⟨_, _, _, rfl, OwB.nil _ _ _⟩⟩, ?_⟩
      · simp [results, Try.results43, go_sem, hc1]
      · exact ((below_call (((Below.refl _ _).alloc (Nat.le_refl _) _).alloc (by simp) _) hb1).setCell (by simp) _).setCell (by simp) _
    | false =>
      have e1 : wrL l s l2 = l ++ l2 := by simp [wrL, ← hln, ← hln2, hv, ht]
      have e2 : wrS l s l2 = s := by simp [wrS, ← hln, ← hln2, hv, ht]
      have e3 : wrE l s l2 = 0 := by simp [wrE, ← hln, ← hln2, hv, ht]
      rw [e1, e2, e3]
      have ht' : decide (1048576 - (n : Int) < (n2 : Int)) = false := ht
      have ht2 : (n2 : Int) ≤ 1048576 - (n : Int) := by simpa using ht'
      have hsz : (cat [l, l2] [l, l2].length).length ≤ 140737488355328 := by rw [show [l, l2].length = 2 from rfl, cat_two, List.length_append]; omega
      have HS := Lib.hid hsz
      clear e1 e2 e3 hln hln2 ht hsz
      go_enter Try.func43, Try.ntmps43
      go_wp2_with (go_at_call 37; refine (valid_any _ _ _ _ _).mono ?_; rintro e w1 ⟨rfl, hb1⟩; obtain ⟨hc1, hf1⟩ := bcell hb1)
      have hB1 : Below w.heap.size w w1 := below_call (((Below.refl _ _).alloc (Nat.le_refl _) _).alloc (by simp) _) hb1
      have hS : ∀ W : World, Bel (w.heap.size + 1) w1 W → W.cell? ⟨w.heap.size, 0, none⟩ = some (.slice A n c) ∧ W.cell? ⟨w.heap.size, 1, none⟩ = some (.int .i64 s) := by
        intro W hW
        have hz := hb1.size
        simp at hz
        exact ⟨(hW.2.cell (p := ⟨w.heap.size, 0, none⟩) (by simp)).trans (by simp [go_sem, hc1]), (hW.2.cell (p := ⟨w.heap.size, 1, none⟩) (by simp)).trans (by simp [go_sem, hc1])⟩
      have HK := Lib.hid hS
      clear hS
      have hcon : ∀ (W : World) (g : Nat), Bel w1.heap.size w1 W → W.cell? ⟨g, 0, none⟩ = some (.slice A n c) → W.cell? ⟨g, 1, none⟩ = some (.slice A2 n2 c2) →
          Calls Try.prog 28 #[.slice (some ⟨g, 0, none⟩) 2 2] W (ROwn W (l ++ l2)) := by
        intro W g hW h0 h1
        have hb := below_call hB1 hW.2
        have := concat_any g 2 2 [l, l2] W (rows_two (hr.below hb) (hr2.below hb) h0 h1) (by simp) HS.out
        rw [show [l, l2].length = 2 from rfl, cat_two] at this
        exact this
      have HC := Lib.hid hcon
      clear hcon
      have hz1 : w.heap.size < w1.heap.size ∧ w.heap.size + 1 < w1.heap.size := by have := hb1.size; simp at this; omega
      obtain ⟨hz0, hz1⟩ := hz1
      go_region_held3 (fun w' => w'.cell? ⟨w.heap.size, 0, none⟩ = some (.slice A n c) ∧ w'.cell? ⟨w.heap.size, 1, none⟩ = some (.int .i64 s))
        ((refine HK.out _ ?_; (focus (repeat' first | (with_reducible refine bel_refl ?_) | with_reducible assumption | with_reducible refine bel_drew ?_ | with_reducible refine bel_drewN _ ?_ | with_reducible refine bel_alloc _ ?_ | with_reducible refine bel_set ?_ _ ?_ | (with_reducible apply bel_call; with_reducible assumption) | (with_reducible apply bel_owg; with_reducible assumption; (focus omega)) | with_reducible exact Nat.le_refl _ | omega | (simp; done) | (simp; omega))); done))
        ((go_at_call 28; refine (HC.out _ _ ?_ ?_ ?_).mono ?_; (focus (repeat' first | (with_reducible refine bel_refl ?_) | with_reducible assumption | with_reducible refine bel_drew ?_ | with_reducible refine bel_drewN _ ?_ | with_reducible refine bel_alloc _ ?_ | with_reducible refine bel_set ?_ _ ?_ | (with_reducible apply bel_call; with_reducible assumption) | (with_reducible apply bel_owg; with_reducible assumption; (focus omega)) | with_reducible exact Nat.le_refl _ | omega | (simp; done) | (simp; omega))); (focus (simp [go_sem]; done)); (focus (simp [go_sem]; done)); rintro e w2 ⟨v2, rfl, ⟨A3, n3, c3, rfl, ho3⟩, hb2⟩; obtain ⟨hc2, hf2⟩ := bcell hb2))
      go_wp2
      refine bodyPost_ret (v := .tuple #[.agg #[.slice A3 n3 c3, .int .i64 s], .int .i64 0]) ?_ rfl ⟨_, rfl, ⟨_, rfl, ⟨_, _, _, rfl, ?_⟩⟩, ?_⟩
      · simp [results, Try.results43, go_sem, hc2, hc1, hz0, hz1]
      · apply OwB.mono; (focus (repeat' first | with_reducible assumption | (with_reducible apply OwB.drew) | (with_reducible apply OwB.drewN) | (with_reducible apply OwB.alloc) | (with_reducible apply OwB.stored) | (with_reducible apply OwB.set) | (with_reducible apply OwB.call; with_reducible assumption) | omega | (simp; done) | (simp; omega))); (focus (first | omega | (simp; done) | (simp; omega)))
      · (refine bel_out ?_; (focus (repeat' first | (with_reducible refine bel_refl ?_) | with_reducible assumption | with_reducible refine bel_drew ?_ | with_reducible refine bel_drewN _ ?_ | with_reducible refine bel_alloc _ ?_ | with_reducible refine bel_set ?_ _ ?_ | (with_reducible apply bel_call; with_reducible assumption) | (with_reducible apply bel_owg; with_reducible assumption; (focus omega)) | with_reducible exact Nat.le_refl _ | omega | (simp; done) | (simp; omega))))

set_option maxHeartbeats 800000 in
theorem rwrite_any (A : Option Addr) (n c : Nat) (l : List UInt8) (s : Int) (A2 : Option Addr) (n2 c2 : Nat) (l2 : List UInt8) (w : World) (hr : RdB w A n c l) (hr2 : RdB w A2 n2 c2 l2) :
    Calls Try.prog 48 #[.agg #[.slice A n c, .int .i64 s], .slice A2 n2 c2] w (RDiskE w (wrL l s l2) (wrS l s l2) (wrE l s l2)) := by
  have hln := hr.len
  have hln2 := hr2.len
  cases hv : validB n s with
  | false =>
    have e1 : wrL l s l2 = [] := by simp [wrL, ← hln, hv]
    have e2 : wrS l s l2 = 0 := by simp [wrS, ← hln, hv]
    have e3 : wrE l s l2 = 11 := by simp [wrE, ← hln, hv]
    rw [e1, e2, e3]
    clear e1 e2 e3 hln hln2
    go_enter Try.func48, Try.ntmps48
    go_wp2_with (go_at_call 36; refine (rvalid_any _ _ _ _ _).mono ?_; rintro e w1 ⟨rfl, hb1⟩; obtain ⟨hc1, hf1⟩ := bcell hb1)
    refine bodyPost_ret (v := .tuple #[.agg #[.slice none 0 0, .int .i64 0], .int .i64 11]) ?_ rfl ⟨_, rfl, ⟨_, rfl, ⟨_, _, _, rfl, OwB.nil _ _ _⟩⟩, ?_⟩
    · simp [results, Try.results48, go_sem, hc1]
    · exact ((below_call (((Below.refl _ _).alloc (Nat.le_refl _) _).alloc (by simp) _) hb1).setCell (by simp) _).setCell (by simp) _
  | true =>
    obtain ⟨v1, v2, v3⟩ := valid_le hv
    cases ht : tooB n n2 with
    | true =>
      have e1 : wrL l s l2 = [] := by simp [wrL, ← hln, ← hln2, hv, ht]
      have e2 : wrS l s l2 = 0 := by simp [wrS, ← hln, ← hln2, hv, ht]
      have e3 : wrE l s l2 = 3 := by simp [wrE, ← hln, ← hln2, hv, ht]
      rw [e1, e2, e3]
      have ht' : decide (1048576 - (n : Int) < (n2 : Int)) = true := ht
      clear e1 e2 e3 hln hln2 ht
      go_enter Try.func48, Try.ntmps48
      go_wp2_with (go_at_call 36; refine (rvalid_any _ _ _ _ _).mono ?_; rintro e w1 ⟨rfl, hb1⟩; obtain ⟨hc1, hf1⟩ := bcell hb1)
      refine bodyPost_ret (v := .tuple #[.agg #[.slice none 0 0, .int .i64 0], .int .i64 3]) ?_ rfl ⟨_, rfl, ⟨_, rfl, ⟨_, _, _, rfl, OwB.nil _ _ _⟩⟩, ?_⟩
      · simp [results, Try.results48, go_sem, hc1]
      · exact ((below_call (((Below.refl _ _).alloc (Nat.le_refl _) _).alloc (by simp) _) hb1).setCell (by simp) _).setCell (by simp) _
    | false =>
      have e1 : wrL l s l2 = l ++ l2 := by simp [wrL, ← hln, ← hln2, hv, ht]
      have e2 : wrS l s l2 = s := by simp [wrS, ← hln, ← hln2, hv, ht]
      have e3 : wrE l s l2 = 0 := by simp [wrE, ← hln, ← hln2, hv, ht]
      rw [e1, e2, e3]
      have ht' : decide (1048576 - (n : Int) < (n2 : Int)) = false := ht
      have ht2 : (n2 : Int) ≤ 1048576 - (n : Int) := by simpa using ht'
      have hn47 : n + n2 ≤ 140737488355328 := by omega
      clear e1 e2 e3 hln hln2 ht
      obtain ⟨i0, hi0, hz0', hz1', hz2'⟩ := u8_parts
      go_enter Try.func48, Try.ntmps48
      go_wp2_with (go_at_call 36; refine (rvalid_any _ _ _ _ _).mono ?_; rintro e w1 ⟨rfl, hb1⟩; obtain ⟨hc1, hf1⟩ := bcell hb1)
      have hS : ∀ W : World, Bel (w.heap.size + 1) w1 W → W.cell? ⟨w.heap.size, 0, none⟩ = some (.slice A n c) ∧ W.cell? ⟨w.heap.size, 1, none⟩ = some (.int .i64 s) := by
        intro W hW
        have hz := hb1.size
        simp at hz
        exact ⟨(hW.2.cell (p := ⟨w.heap.size, 0, none⟩) (by simp)).trans (by simp [go_sem, hc1]), (hW.2.cell (p := ⟨w.heap.size, 1, none⟩) (by simp)).trans (by simp [go_sem, hc1])⟩
      have HK := Lib.hid hS
      clear hS
      have hz1 : w.heap.size < w1.heap.size ∧ w.heap.size + 1 < w1.heap.size := by have := hb1.size; simp at this; omega
      obtain ⟨hz0, hz1⟩ := hz1
      go_region_held3 (fun w' => w'.cell? ⟨w.heap.size, 0, none⟩ = some (.slice A n c) ∧ w'.cell? ⟨w.heap.size, 1, none⟩ = some (.int .i64 s))
        ((refine HK.out _ ?_; (focus (repeat' first | (with_reducible refine bel_refl ?_) | with_reducible assumption | with_reducible refine bel_drew ?_ | with_reducible refine bel_drewN _ ?_ | with_reducible refine bel_alloc _ ?_ | with_reducible refine bel_set ?_ _ ?_ | (with_reducible apply bel_call; with_reducible assumption) | (with_reducible apply bel_owg; with_reducible assumption; (focus omega)) | with_reducible exact Nat.le_refl _ | omega | (simp; done) | (simp; omega))); done))
        (first
          | (refine step_append_b _ ?_ (.const (.slice none 0 0)) (.tmp 19) 22 ?_ w1.heap.size 5 i0 Try.underlying22 hi0 hz0' hz1' hz2' none 0 0 [] ?_ (OwB.nil _ _ _) A n c l ?_ ?_ ?_ ?_ ?_; rfl; rfl; rfl; rfl; (focus (refine RdB.below hr ?_; (refine bel_out ?_; (focus (repeat' first | (with_reducible refine bel_refl ?_) | with_reducible assumption | with_reducible refine bel_drew ?_ | with_reducible refine bel_drewN _ ?_ | with_reducible refine bel_alloc _ ?_ | with_reducible refine bel_set ?_ _ ?_ | (with_reducible apply bel_call; with_reducible assumption) | (with_reducible apply bel_owg; with_reducible assumption; (focus omega)) | with_reducible exact Nat.le_refl _ | omega | (simp; done) | (simp; omega)))))); (focus omega); (focus (simp; done)); intro A3 c3 w3 ho3 hg3; have hb3 : Below w1.heap.size w1 w3 := ((Below.refl _ _).drew).grown hg3 (by simp) (by simp [Value.ownBlock]))
          | (refine step_append_b _ ?_ (.tmp 20) (.tmp 21) 22 ?_ w1.heap.size 5 i0 Try.underlying22 hi0 hz0' hz1' hz2' A3 (0 + n) c3 ([] ++ l) ?_ ho3 A2 n2 c2 l2 ?_ ?_ ?_ ?_ ?_; rfl; rfl; rfl; rfl; (focus (refine RdB.below hr2 ?_; (refine bel_out ?_; (focus (repeat' first | (with_reducible refine bel_refl ?_) | with_reducible assumption | with_reducible refine bel_drew ?_ | with_reducible refine bel_drewN _ ?_ | with_reducible refine bel_alloc _ ?_ | with_reducible refine bel_set ?_ _ ?_ | (with_reducible apply bel_call; with_reducible assumption) | (with_reducible apply bel_owg; with_reducible assumption; (focus omega)) | with_reducible exact Nat.le_refl _ | omega | (simp; done) | (simp; omega)))))); (focus omega); (focus exact hb3.size); intro A4 c4 w4 ho4 hg4; have hb4 : Below w1.heap.size w1 w4 := hb3.grown hg4 hb3.size (fun j hj => (ho3.own.lt j hj).1); obtain ⟨hc4, hf4⟩ := bcell hb4))
      go_wp2
      refine bodyPost_ret (v := .tuple #[.agg #[.slice A4 (0 + n + n2) c4, .int .i64 s], .int .i64 0]) ?_ rfl ⟨_, rfl, ⟨_, rfl, ⟨_, _, _, rfl, ?_⟩⟩, ?_⟩
      · simp [results, Try.results48, go_sem, hc4, hc1, hz0, hz1]
      · have ho5 : OwB w4 w1.heap.size 5 A4 (0 + n + n2) c4 (l ++ l2) := ho4
        apply OwB.mono; (focus (repeat' first | with_reducible assumption | (with_reducible apply OwB.drew) | (with_reducible apply OwB.drewN) | (with_reducible apply OwB.alloc) | (with_reducible apply OwB.stored) | (with_reducible apply OwB.set) | (with_reducible apply OwB.call; with_reducible assumption) | omega | (simp; done) | (simp; omega))); (focus (first | omega | (simp; done) | (simp; omega)))
      · (refine bel_out ?_; (focus (repeat' first | (with_reducible refine bel_refl ?_) | with_reducible assumption | with_reducible refine bel_drew ?_ | with_reducible refine bel_drewN _ ?_ | with_reducible refine bel_alloc _ ?_ | with_reducible refine bel_set ?_ _ ?_ | (with_reducible apply bel_call; with_reducible assumption) | (with_reducible apply bel_owg; with_reducible assumption; (focus omega)) | with_reducible exact Nat.le_refl _ | omega | (simp; done) | (simp; omega))))

end Go.Proofs.Ytaagmiidapammaa
