/- The walks of Frame. -/
import Derived.Test.YtaagmiidapammaaJ2
namespace Go.Proofs.Ytaagmiidapammaa
open Go.RowKit
set_option linter.unusedSimpArgs false
set_option linter.unusedVariables false

theorem concat2_any (g : Nat) (A : Option Addr) (n c : Nat) (l : List UInt8) (A2 : Option Addr) (n2 c2 : Nat) (l2 : List UInt8) (W : World) (h : RdB W A n c l) (h2 : RdB W A2 n2 c2 l2)
    (hc : W.cell? ⟨g, 0, none⟩ = some (.slice A n c)) (hc2 : W.cell? ⟨g, 1, none⟩ = some (.slice A2 n2 c2)) (hs : n + n2 ≤ 140737488355328) :
    Calls Try.prog 28 #[.slice (some ⟨g, 0, none⟩) 2 2] W (ROwn W (l ++ l2)) := by
  have hsz : (cat [l, l2] [l, l2].length).length ≤ 140737488355328 := by rw [show [l, l2].length = 2 from rfl, cat_two, List.length_append, ← h.len, ← h2.len]; omega
  have := concat_any g 2 2 [l, l2] W (rows_two h h2 hc hc2) (by simp) hsz
  rw [show [l, l2].length = 2 from rfl, cat_two] at this
  exact this

def RFrame (w : World) (l : List UInt8) (err : Int) : Ending → World → Prop := Ret w fun v w' => ∃ A n c, v = .tuple #[.slice A n c, .int .i64 err] ∧ OwB w' w.heap.size 5 A n c l

theorem frame_no (s : Int) (A : Option Addr) (n c : Nat) (d : List UInt8) (w : World) (h : seqB s = false) :
    Calls Try.prog 12 #[.agg #[.int .i64 s, .slice A n c]] w (RFrame w [] 2) := by
  have hs : s < 1 ∨ (¬ s < 1 ∧ 1073741824 < s) := by simp [seqB] at h; omega
  rcases hs with h1 | ⟨h1, h2⟩
  all_goals
    go_enter Try.func12, Try.ntmps12
    go_wp2
    go_ret2
    exact ⟨_, rfl, ⟨_, _, _, rfl, OwB.nil _ _ _⟩, by (refine bel_out ?_; (focus (repeat' first | (with_reducible refine bel_refl ?_) | with_reducible assumption | with_reducible refine bel_drew ?_ | with_reducible refine bel_drewN _ ?_ | with_reducible refine bel_alloc _ ?_ | with_reducible refine bel_set ?_ _ ?_ | (with_reducible apply bel_call; with_reducible assumption) | (with_reducible apply bel_owg; with_reducible assumption; (focus omega)) | with_reducible exact Nat.le_refl _ | omega | (simp; done) | (simp; omega))))⟩

theorem frame_big (s : Int) (A : Option Addr) (n c : Nat) (d : List UInt8) (w : World) (h : seqB s = true) (hn : 65536 < n) :
    Calls Try.prog 12 #[.agg #[.int .i64 s, .slice A n c]] w (RFrame w [] 3) := by
  have hs : ¬ s < 1 ∧ ¬ 1073741824 < s := by simp [seqB] at h; omega
  obtain ⟨h1, h2⟩ := hs
  go_enter Try.func12, Try.ntmps12
  go_wp2
  go_ret2
  exact ⟨_, rfl, ⟨_, _, _, rfl, OwB.nil _ _ _⟩, by (refine bel_out ?_; (focus (repeat' first | (with_reducible refine bel_refl ?_) | with_reducible assumption | with_reducible refine bel_drew ?_ | with_reducible refine bel_drewN _ ?_ | with_reducible refine bel_alloc _ ?_ | with_reducible refine bel_set ?_ _ ?_ | (with_reducible apply bel_call; with_reducible assumption) | (with_reducible apply bel_owg; with_reducible assumption; (focus omega)) | with_reducible exact Nat.le_refl _ | omega | (simp; done) | (simp; omega))))⟩

set_option maxHeartbeats 800000 in
theorem frame_ok (s : Nat) (A : Option Addr) (n c : Nat) (d : List UInt8) (w : World) (hr : RdB w A n c d) (h1 : 1 ≤ s) (h2 : s ≤ 1073741824) (hn : n ≤ 65536) :
    Calls Try.prog 12 #[.agg #[.int .i64 (s : Int), .slice A n c]] w (RFrame w (frameB s d) 0) := by
  have HL := Lib.hid hr.len
  have hs1 : ¬ (s : Int) < 1 := by omega
  have hs2 : ¬ 1073741824 < (s : Int) := by omega
  have hn1 : ¬ 65536 < n := by omega
  obtain ⟨i0, hi0, hz0', hz1', hz2'⟩ := u8_parts
  go_enter Try.func12, Try.ntmps12
  go_wp2_with fail
  have HK : Hid (∀ W : World, Bel (w.heap.size + 1) (w.alloc (.cells #[.int .i64 (s : Int), .slice A n c] 24)) W → W.cell? ⟨w.heap.size, 0, none⟩ = some (.int .i64 (s : Int)) ∧ W.cell? ⟨w.heap.size, 1, none⟩ = some (.slice A n c)) := by
    intro W hW
    exact ⟨(hW.2.cell (p := ⟨w.heap.size, 0, none⟩) (by simp)).trans (by simp [go_sem]), (hW.2.cell (p := ⟨w.heap.size, 1, none⟩) (by simp)).trans (by simp [go_sem])⟩
  have hwn : IntKind.u64.wrap (n : Int) = n := by rw [IntKind.wrap_u64]; omega
  have hws : IntKind.u64.wrap (s : Int) = s := by rw [IntKind.wrap_u64]; omega
  go_region_held3 (fun w' => w'.cell? ⟨w.heap.size, 0, none⟩ = some (.int .i64 (s : Int)) ∧ w'.cell? ⟨w.heap.size, 1, none⟩ = some (.slice A n c))
    ((refine HK.out _ ?_; (focus (repeat' first | (with_reducible refine bel_refl ?_) | with_reducible assumption | with_reducible refine bel_drew ?_ | with_reducible refine bel_drewN _ ?_ | with_reducible refine bel_alloc _ ?_ | with_reducible refine bel_set ?_ _ ?_ | (with_reducible apply bel_call; with_reducible assumption) | (with_reducible apply bel_owg; with_reducible assumption; (focus omega)) | with_reducible exact Nat.le_refl _ | omega | (simp; done) | (simp; omega))); done))
    (first
      | (go_at_call 27; (with_reducible refine (put_any (w.heap.size + 1) none 0 0 [] n 4 4 rfl _ (OwB.nil _ _ _) ?_ ?_ ?_).mono ?_); (focus (simp; done)); (focus omega); (focus omega); rintro e w2 ⟨A2, n2, c2, rfl, ho2, hg2⟩)
      | (go_at_call 27; (with_reducible refine (put_any (w.heap.size + 1) A2 n2 c2 ([] ++ be n 4) s 8 8 rfl _ ?_ ?_ ?_ ?_).mono ?_); (focus (focus (repeat' first | with_reducible assumption | (with_reducible apply OwB.drew) | (with_reducible apply OwB.drewN) | (with_reducible apply OwB.alloc) | (with_reducible apply OwB.stored) | (with_reducible apply OwB.set) | (with_reducible apply OwB.call; with_reducible assumption) | omega | (simp; done) | (simp; omega)))); (focus (have := hg2.b.size; simp at this; omega)); (focus omega); (focus (have := ho2.len; simp [be_length] at this; omega)); rintro e w3 ⟨A3, n3, c3, rfl, ho3, hg3⟩))
  have hn3 : n3 = 12 := by have := ho3.len; simp [be_length] at this; omega
  subst hn3
  obtain ⟨kr0, kr1⟩ := HK.out w3 (by (focus (repeat' first | (with_reducible refine bel_refl ?_) | with_reducible assumption | with_reducible refine bel_drew ?_ | with_reducible refine bel_drewN _ ?_ | with_reducible refine bel_alloc _ ?_ | with_reducible refine bel_set ?_ _ ?_ | (with_reducible apply bel_call; with_reducible assumption) | (with_reducible apply bel_owg; with_reducible assumption; (focus omega)) | with_reducible exact Nat.le_refl _ | omega | (simp; done) | (simp; omega))))
  have hrd3 : RdB w3 A n c d := hr.below (by (refine bel_out ?_; (focus (repeat' first | (with_reducible refine bel_refl ?_) | with_reducible assumption | with_reducible refine bel_drew ?_ | with_reducible refine bel_drewN _ ?_ | with_reducible refine bel_alloc _ ?_ | with_reducible refine bel_set ?_ _ ?_ | (with_reducible apply bel_call; with_reducible assumption) | (with_reducible apply bel_owg; with_reducible assumption; (focus omega)) | with_reducible exact Nat.le_refl _ | omega | (simp; done) | (simp; omega)))))
  have hlt : (sumP ([] ++ be n 4 ++ be s 8 ++ d)).toNat < 4294967296 := UInt32.toNat_lt _
  have ho3' : OwB w3 (w.heap.size + 1) 5 A3 12 c3 (headB n s) := ho3
  go_wp2_with (first
    | (go_at_call 28; refine (concat2_any w3.heap.size A3 12 c3 (headB n s) A n c d _ (ho3'.rd.alloc _) (hrd3.alloc _) ?_ ?_ ?_).mono ?_; (focus (simp [go_sem]; done)); (focus (simp [go_sem]; done)); (focus omega); rintro e w4 ⟨v4, rfl, ⟨A4, n4, c4, rfl, ho4⟩, hb4⟩)
    | (go_at_call 14; refine (sum_any A4 n4 c4 (headB n s ++ d) _ ho4.rd).mono ?_; rintro e W ⟨rfl, rfl⟩))
  have hz4 : w.heap.size + 1 ≤ w4.heap.size := by have h1 := hg2.b.size; have h2 := hg3.b.size; have h3 := hb4.size; simp at h1 h3; omega
  have ho4' : OwB w4 (w.heap.size + 1) 5 A3 12 c3 (headB n s) := by (focus (repeat' first | with_reducible assumption | (with_reducible apply OwB.drew) | (with_reducible apply OwB.drewN) | (with_reducible apply OwB.alloc) | (with_reducible apply OwB.stored) | (with_reducible apply OwB.set) | (with_reducible apply OwB.call; with_reducible assumption) | omega | (simp; done) | (simp; omega)))
  obtain ⟨kr0, kr1⟩ := HK.out w4 (by (focus (repeat' first | (with_reducible refine bel_refl ?_) | with_reducible assumption | with_reducible refine bel_drew ?_ | with_reducible refine bel_drewN _ ?_ | with_reducible refine bel_alloc _ ?_ | with_reducible refine bel_set ?_ _ ?_ | (with_reducible apply bel_call; with_reducible assumption) | (with_reducible apply bel_owg; with_reducible assumption; (focus omega)) | with_reducible exact Nat.le_refl _ | omega | (simp; done) | (simp; omega))))
  have HQ : Hid (frameB s d = headB n s ++ be (sumP (headB n s ++ d)).toNat 4 ++ d) := by rw [frameB, ← HL.out]; exact Lib.hid rfl
  have hq : (sumP (headB n s ++ d)).toNat < 4294967296 := UInt32.toNat_lt _
  generalize (sumP (headB n s ++ d)).toNat = q at hq HQ ⊢
  have hwq : IntKind.u64.wrap (q : Int) = q := by rw [IntKind.wrap_u64]; omega
  go_region_held3 (fun w' => w'.cell? ⟨w.heap.size, 0, none⟩ = some (.int .i64 (s : Int)) ∧ w'.cell? ⟨w.heap.size, 1, none⟩ = some (.slice A n c))
    ((refine HK.out _ ?_; (focus (repeat' first | (with_reducible refine bel_refl ?_) | with_reducible assumption | with_reducible refine bel_drew ?_ | with_reducible refine bel_drewN _ ?_ | with_reducible refine bel_alloc _ ?_ | with_reducible refine bel_set ?_ _ ?_ | (with_reducible apply bel_call; with_reducible assumption) | (with_reducible apply bel_owg; with_reducible assumption; (focus omega)) | with_reducible exact Nat.le_refl _ | omega | (simp; done) | (simp; omega))); done))
    (first
      | (go_at_call 27; go_must ((with_reducible refine (put_any (w.heap.size + 1) A3 12 c3 (headB n s) q 4 4 rfl _ ?_ ?_ ?_ ?_).mono ?_); (focus (focus (repeat' first | with_reducible assumption | (with_reducible apply OwB.drew) | (with_reducible apply OwB.drewN) | (with_reducible apply OwB.alloc) | (with_reducible apply OwB.stored) | (with_reducible apply OwB.set) | (with_reducible apply OwB.call; with_reducible assumption) | omega | (simp; done) | (simp; omega)))); (focus (simp; omega)); (focus omega); (focus omega); rintro e w5 ⟨A5, n5, c5, rfl, ho5, hg5⟩; (have hn5 : n5 = 16 := (by have := ho5.len; simp [be_length, headB_length] at this; omega)); subst hn5))
      | (go_loud (refine step_append_g _ ?_ (.tmp 38) (.tmp 40) 22 ?_ (w.heap.size + 1) 5 i0 Try.underlying22 hi0 hz0' hz1' hz2' A5 16 c5 (headB n s ++ be q 4) ?_ ?_ A n c d ?_ ?_ ?_ ?_ ?_); rfl; rfl; rfl; (focus (focus (repeat' first | with_reducible assumption | (with_reducible apply OwB.drew) | (with_reducible apply OwB.drewN) | (with_reducible apply OwB.alloc) | (with_reducible apply OwB.stored) | (with_reducible apply OwB.set) | (with_reducible apply OwB.call; with_reducible assumption) | omega | (simp; done) | (simp; omega)))); rfl; (focus (refine RdB.below hr ?_; (refine bel_out ?_; (focus (repeat' first | (with_reducible refine bel_refl ?_) | with_reducible assumption | with_reducible refine bel_drew ?_ | with_reducible refine bel_drewN _ ?_ | with_reducible refine bel_alloc _ ?_ | with_reducible refine bel_set ?_ _ ?_ | (with_reducible apply bel_call; with_reducible assumption) | (with_reducible apply bel_owg; with_reducible assumption; (focus omega)) | with_reducible exact Nat.le_refl _ | omega | (simp; done) | (simp; omega)))))); (focus omega); (focus (have h5 : w4.heap.size ≤ w5.heap.size := hg5.b.size; omega)); intro A6 c6 w6 ho6 hg6))
  go_wp2
  go_ret2
  refine ⟨_, rfl, ⟨_, _, _, rfl, ?_⟩, ?_⟩
  · rw [HQ.out]
    exact OwB.mono ho6 (by omega)
  exact bel_out (bel_owg hg6 (by omega) (by (focus (repeat' first | (with_reducible refine bel_refl ?_) | with_reducible assumption | with_reducible refine bel_drew ?_ | with_reducible refine bel_drewN _ ?_ | with_reducible refine bel_alloc _ ?_ | with_reducible refine bel_set ?_ _ ?_ | (with_reducible apply bel_call; with_reducible assumption) | (with_reducible apply bel_owg; with_reducible assumption; (focus omega)) | with_reducible exact Nat.le_refl _ | omega | (simp; done) | (simp; omega)))))

theorem rframe_no (s : Int) (A : Option Addr) (n c : Nat) (d : List UInt8) (w : World) (h : seqB s = false) :
    Calls Try.prog 13 #[.agg #[.int .i64 s, .slice A n c]] w (RFrame w [] 2) := by
  have hs : s < 1 ∨ (¬ s < 1 ∧ 1073741824 < s) := by simp [seqB] at h; omega
  rcases hs with h1 | ⟨h1, h2⟩
  all_goals
    go_enter Try.func13, Try.ntmps13
    go_wp2
    go_ret2
    exact ⟨_, rfl, ⟨_, _, _, rfl, OwB.nil _ _ _⟩, by (refine bel_out ?_; (focus (repeat' first | (with_reducible refine bel_refl ?_) | with_reducible assumption | with_reducible refine bel_drew ?_ | with_reducible refine bel_drewN _ ?_ | with_reducible refine bel_alloc _ ?_ | with_reducible refine bel_set ?_ _ ?_ | (with_reducible apply bel_call; with_reducible assumption) | (with_reducible apply bel_owg; with_reducible assumption; (focus omega)) | with_reducible exact Nat.le_refl _ | omega | (simp; done) | (simp; omega))))⟩

theorem rframe_big (s : Int) (A : Option Addr) (n c : Nat) (d : List UInt8) (w : World) (h : seqB s = true) (hn : 65536 < n) :
    Calls Try.prog 13 #[.agg #[.int .i64 s, .slice A n c]] w (RFrame w [] 3) := by
  have hs : ¬ s < 1 ∧ ¬ 1073741824 < s := by simp [seqB] at h; omega
  obtain ⟨h1, h2⟩ := hs
  go_enter Try.func13, Try.ntmps13
  go_wp2
  go_ret2
  exact ⟨_, rfl, ⟨_, _, _, rfl, OwB.nil _ _ _⟩, by (refine bel_out ?_; (focus (repeat' first | (with_reducible refine bel_refl ?_) | with_reducible assumption | with_reducible refine bel_drew ?_ | with_reducible refine bel_drewN _ ?_ | with_reducible refine bel_alloc _ ?_ | with_reducible refine bel_set ?_ _ ?_ | (with_reducible apply bel_call; with_reducible assumption) | (with_reducible apply bel_owg; with_reducible assumption; (focus omega)) | with_reducible exact Nat.le_refl _ | omega | (simp; done) | (simp; omega))))⟩


set_option maxHeartbeats 1600000 in
theorem rframe_ok (s : Nat) (A : Option Addr) (n c : Nat) (d : List UInt8) (w : World) (hr : RdB w A n c d) (h1 : 1 ≤ s) (h2 : s ≤ 1073741824) (hn : n ≤ 65536) :
    Calls Try.prog 13 #[.agg #[.int .i64 (s : Int), .slice A n c]] w (RFrame w (frameB s d) 0) := by
  have HL := Lib.hid hr.len
  have hs1 : ¬ (s : Int) < 1 := by omega
  have hs2 : ¬ 1073741824 < (s : Int) := by omega
  have hn1 : ¬ 65536 < n := by omega
  obtain ⟨i0, hi0, hz0', hz1', hz2'⟩ := u8_parts
  go_enter Try.func13, Try.ntmps13
  go_wp2_with fail
  have HK : Hid (∀ W : World, Bel (w.heap.size + 1) (w.alloc (.cells #[.int .i64 (s : Int), .slice A n c] 24)) W → W.cell? ⟨w.heap.size, 0, none⟩ = some (.int .i64 (s : Int)) ∧ W.cell? ⟨w.heap.size, 1, none⟩ = some (.slice A n c)) := by
    intro W hW
    exact ⟨(hW.2.cell (p := ⟨w.heap.size, 0, none⟩) (by simp)).trans (by simp [go_sem]), (hW.2.cell (p := ⟨w.heap.size, 1, none⟩) (by simp)).trans (by simp [go_sem])⟩
  have hwn : IntKind.u64.wrap (n : Int) = n := by rw [IntKind.wrap_u64]; omega
  have hws : IntKind.u64.wrap (s : Int) = s := by rw [IntKind.wrap_u64]; omega
  go_region_held3 (fun w' => w'.cell? ⟨w.heap.size, 0, none⟩ = some (.int .i64 (s : Int)) ∧ w'.cell? ⟨w.heap.size, 1, none⟩ = some (.slice A n c))
    ((refine HK.out _ ?_; (focus (repeat' first | (with_reducible refine bel_refl ?_) | with_reducible assumption | with_reducible refine bel_drew ?_ | with_reducible refine bel_drewN _ ?_ | with_reducible refine bel_alloc _ ?_ | with_reducible refine bel_set ?_ _ ?_ | (with_reducible apply bel_call; with_reducible assumption) | (with_reducible apply bel_owg; with_reducible assumption; (focus omega)) | with_reducible exact Nat.le_refl _ | omega | (simp; done) | (simp; omega))); done))
    (first
      | (go_at_call 29; (with_reducible refine (big_any n 4 4 rfl _ ?_ ?_).mono ?_); (focus omega); (focus omega); rintro e w2 ⟨v2, rfl, ⟨A2, n2, c2, rfl, ho2⟩, hb2⟩; (have hn2 : n2 = 4 := (by have := ho2.len; simp [be_length] at this; omega)); subst hn2; have hz2 : w.heap.size + 1 ≤ w2.heap.size := (by have h1 := hb2.size; simp at h1; omega))
      | (go_at_call 29; (with_reducible refine (big_any s 8 8 rfl _ ?_ ?_).mono ?_); (focus omega); (focus omega); rintro e w3 ⟨v3, rfl, ⟨A3, n3, c3, rfl, ho3⟩, hb3⟩; (have hn3 : n3 = 8 := (by have := ho3.len; simp [be_length] at this; omega)); subst hn3; have hz3 : w2.heap.size ≤ w3.heap.size := hb3.size; have ho2' : OwB w3 (w.heap.size + 1) 5 A2 4 c2 (be n 4) := OwB.mono (OwB.call hb3 ho2) (by simp))
      | (refine step_append_g _ ?_ (.tmp 22) (.tmp 26) 22 ?_ (w.heap.size + 1) 5 i0 Try.underlying22 hi0 hz0' hz1' hz2' A2 4 c2 (be n 4) ?_ ?_ A3 8 c3 (be s 8) ?_ ?_ ?_ ?_ ?_; rfl; rfl; rfl; (focus (focus (repeat' first | with_reducible assumption | (with_reducible apply OwB.drew) | (with_reducible apply OwB.drewN) | (with_reducible apply OwB.alloc) | (with_reducible apply OwB.stored) | (with_reducible apply OwB.set) | (with_reducible apply OwB.call; with_reducible assumption) | omega | (simp; done) | (simp; omega)))); rfl; (focus (apply OwB.rd; (focus (repeat' first | with_reducible assumption | (with_reducible apply OwB.drew) | (with_reducible apply OwB.drewN) | (with_reducible apply OwB.alloc) | (with_reducible apply OwB.stored) | (with_reducible apply OwB.set) | (with_reducible apply OwB.call; with_reducible assumption) | omega | (simp; done) | (simp; omega))))); (focus omega); (focus omega); intro A4 c4 w4 ho4 hg4))
  have ho4' : OwB w4 (w.heap.size + 1) 5 A4 12 c4 (headB n s) := ho4
  have hz4 : w3.heap.size ≤ w4.heap.size := hg4.b.size
  obtain ⟨kr0, kr1⟩ := HK.out w4 (by (focus (repeat' first | (with_reducible refine bel_refl ?_) | with_reducible assumption | with_reducible refine bel_drew ?_ | with_reducible refine bel_drewN _ ?_ | with_reducible refine bel_alloc _ ?_ | with_reducible refine bel_set ?_ _ ?_ | (with_reducible apply bel_call; with_reducible assumption) | (with_reducible apply bel_owg; with_reducible assumption; (focus omega)) | with_reducible exact Nat.le_refl _ | omega | (simp; done) | (simp; omega))))
  go_wp2_with fail
  go_region_held3 (fun w' => w'.cell? ⟨w.heap.size, 0, none⟩ = some (.int .i64 (s : Int)) ∧ w'.cell? ⟨w.heap.size, 1, none⟩ = some (.slice A n c))
    ((refine HK.out _ ?_; (focus (repeat' first | (with_reducible refine bel_refl ?_) | with_reducible assumption | with_reducible refine bel_drew ?_ | with_reducible refine bel_drewN _ ?_ | with_reducible refine bel_alloc _ ?_ | with_reducible refine bel_set ?_ _ ?_ | (with_reducible apply bel_call; with_reducible assumption) | (with_reducible apply bel_owg; with_reducible assumption; (focus omega)) | with_reducible exact Nat.le_refl _ | omega | (simp; done) | (simp; omega))); done))
    (first
      | (refine step_append_n _ ?_ (.const (.slice none 0 0)) (.tmp 28) 22 ?_ (w.heap.size + 1) 5 i0 Try.underlying22 hi0 hz0' hz1' hz2' ?_ A4 12 c4 (headB n s) ?_ ?_ ?_ ?_ ?_; rfl; rfl; rfl; rfl; (focus (apply OwB.rd; (focus (repeat' first | with_reducible assumption | (with_reducible apply OwB.drew) | (with_reducible apply OwB.drewN) | (with_reducible apply OwB.alloc) | (with_reducible apply OwB.stored) | (with_reducible apply OwB.set) | (with_reducible apply OwB.call; with_reducible assumption) | omega | (simp; done) | (simp; omega))))); (focus omega); (focus (show _ ≤ w4.heap.size; omega)); intro A5 c5 w5 ho5 hg5; have hz5 : w4.heap.size ≤ w5.heap.size := hg5.b.size)
      | (refine step_append_g _ ?_ (.tmp 29) (.tmp 31) 22 ?_ (w.heap.size + 1) 5 i0 Try.underlying22 hi0 hz0' hz1' hz2' A5 12 c5 (headB n s) ?_ ho5 A n c d ?_ ?_ ?_ ?_ ?_; rfl; rfl; rfl; rfl; (focus (refine RdB.below hr ?_; (refine bel_out ?_; (focus (repeat' first | (with_reducible refine bel_refl ?_) | with_reducible assumption | with_reducible refine bel_drew ?_ | with_reducible refine bel_drewN _ ?_ | with_reducible refine bel_alloc _ ?_ | with_reducible refine bel_set ?_ _ ?_ | (with_reducible apply bel_call; with_reducible assumption) | (with_reducible apply bel_owg; with_reducible assumption; (focus omega)) | with_reducible exact Nat.le_refl _ | omega | (simp; done) | (simp; omega)))))); (focus omega); (focus omega); intro A6 c6 w6 ho6 hg6; have hz6 : w5.heap.size ≤ w6.heap.size := hg6.b.size)
      | (go_at_call 15; go_must ((with_reducible refine (rsum_any A6 _ c6 (headB n s ++ d) _ ?_).mono ?_); (focus (apply OwB.rd; (focus (repeat' first | with_reducible assumption | (with_reducible apply OwB.drew) | (with_reducible apply OwB.drewN) | (with_reducible apply OwB.alloc) | (with_reducible apply OwB.stored) | (with_reducible apply OwB.set) | (with_reducible apply OwB.call; with_reducible assumption) | omega | (simp; done) | (simp; omega))))); rintro e W ⟨rfl, rfl⟩)))
  have hb6 : Below w4.heap.size w4 w6 := (OwG.trans (OwG.drew_left hg5) hg6).new
  have ho46 : OwB w6 (w.heap.size + 1) 5 A4 12 c4 (headB n s) := OwB.call hb6 ho4'
  go_wp2_with fail
  obtain ⟨kr60, kr61⟩ := HK.out w6 (by (focus (repeat' first | (with_reducible refine bel_refl ?_) | with_reducible assumption | with_reducible refine bel_drew ?_ | with_reducible refine bel_drewN _ ?_ | with_reducible refine bel_alloc _ ?_ | with_reducible refine bel_set ?_ _ ?_ | (with_reducible apply bel_call; with_reducible assumption) | (with_reducible apply bel_owg; with_reducible assumption; (focus omega)) | with_reducible exact Nat.le_refl _ | omega | (simp; done) | (simp; omega))))
  have HQ : Hid (frameB s d = headB n s ++ be (sumP (headB n s ++ d)).toNat 4 ++ d) := by rw [frameB, ← HL.out]; exact Lib.hid rfl
  have hq : (sumP (headB n s ++ d)).toNat < 4294967296 := UInt32.toNat_lt _
  generalize (sumP (headB n s ++ d)).toNat = q at hq HQ ⊢
  have hwq : IntKind.u64.wrap (q : Int) = q := by rw [IntKind.wrap_u64]; omega
  go_region_held3 (fun w' => w'.cell? ⟨w.heap.size, 0, none⟩ = some (.int .i64 (s : Int)) ∧ w'.cell? ⟨w.heap.size, 1, none⟩ = some (.slice A n c))
    ((refine HK.out _ ?_; (focus (repeat' first | (with_reducible refine bel_refl ?_) | with_reducible assumption | with_reducible refine bel_drew ?_ | with_reducible refine bel_drewN _ ?_ | with_reducible refine bel_alloc _ ?_ | with_reducible refine bel_set ?_ _ ?_ | (with_reducible apply bel_call; with_reducible assumption) | (with_reducible apply bel_owg; with_reducible assumption; (focus omega)) | with_reducible exact Nat.le_refl _ | omega | (simp; done) | (simp; omega))); done))
    (first
      | (go_at_call 29; go_must ((with_reducible refine (big_any q 4 4 rfl _ ?_ ?_).mono ?_); (focus omega); (focus omega); rintro e w7 ⟨v7, rfl, ⟨A7, n7, c7, rfl, ho7⟩, hb7⟩; (have hn7 : n7 = 4 := (by have := ho7.len; simp [be_length] at this; omega)); subst hn7; have hz7 : w6.heap.size ≤ w7.heap.size := hb7.size; have ho47 : OwB w7 (w.heap.size + 1) 5 A4 12 c4 (headB n s) := OwB.call hb7 (OwB.drew ho46)))
      | (refine step_append_g _ ?_ (.tmp 34) (.tmp 37) 22 ?_ (w.heap.size + 1) 5 i0 Try.underlying22 hi0 hz0' hz1' hz2' A4 12 c4 (headB n s) ?_ ?_ A7 4 c7 (be q 4) ?_ ?_ ?_ ?_ ?_; rfl; rfl; rfl; (focus (focus (repeat' first | with_reducible assumption | (with_reducible apply OwB.drew) | (with_reducible apply OwB.drewN) | (with_reducible apply OwB.alloc) | (with_reducible apply OwB.stored) | (with_reducible apply OwB.set) | (with_reducible apply OwB.call; with_reducible assumption) | omega | (simp; done) | (simp; omega)))); rfl; (focus (apply OwB.rd; (focus (repeat' first | with_reducible assumption | (with_reducible apply OwB.drew) | (with_reducible apply OwB.drewN) | (with_reducible apply OwB.alloc) | (with_reducible apply OwB.stored) | (with_reducible apply OwB.set) | (with_reducible apply OwB.call; with_reducible assumption) | omega | (simp; done) | (simp; omega))))); (focus omega); (focus omega); intro A8 c8 w8 ho8 hg8; have hz8 : w7.heap.size ≤ w8.heap.size := hg8.b.size)
      | (refine step_append_g _ ?_ (.tmp 38) (.tmp 40) 22 ?_ (w.heap.size + 1) 5 i0 Try.underlying22 hi0 hz0' hz1' hz2' A8 16 c8 (headB n s ++ be q 4) ?_ ?_ A n c d ?_ ?_ ?_ ?_ ?_; rfl; rfl; rfl; (focus exact ho8); rfl; (focus (refine RdB.below hr ?_; (refine bel_out ?_; (focus (repeat' first | (with_reducible refine bel_refl ?_) | with_reducible assumption | with_reducible refine bel_drew ?_ | with_reducible refine bel_drewN _ ?_ | with_reducible refine bel_alloc _ ?_ | with_reducible refine bel_set ?_ _ ?_ | (with_reducible apply bel_call; with_reducible assumption) | (with_reducible apply bel_owg; with_reducible assumption; (focus omega)) | with_reducible exact Nat.le_refl _ | omega | (simp; done) | (simp; omega)))))); (focus omega); (focus omega); intro A9 c9 w9 ho9 hg9))
  go_wp2
  go_ret2
  refine ⟨_, rfl, ⟨_, _, _, rfl, ?_⟩, ?_⟩
  · rw [HQ.out]
    exact OwB.mono ho9 (by omega)
  · exact bel_out (bel_owg hg9 (by omega) (by (focus (repeat' first | (with_reducible refine bel_refl ?_) | with_reducible assumption | with_reducible refine bel_drew ?_ | with_reducible refine bel_drewN _ ?_ | with_reducible refine bel_alloc _ ?_ | with_reducible refine bel_set ?_ _ ?_ | (with_reducible apply bel_call; with_reducible assumption) | (with_reducible apply bel_owg; with_reducible assumption; (focus omega)) | with_reducible exact Nat.le_refl _ | omega | (simp; done) | (simp; omega)))))

end Go.Proofs.Ytaagmiidapammaa
