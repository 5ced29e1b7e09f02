/- The walks of package disk and of its reference. -/
import Derived.Test.YtaagmiidapammaaRows
import Derived.Test.YtaagmiidapammaaWords
import Derived.BigQuiet
import Derived.Deep.RegionHeld3
import Derived.Outline
import Derived.Lib.AppendZeros
namespace Go.Proofs.Ytaagmiidapammaa
open Go.RowKit
set_option linter.unusedSimpArgs false
set_option linter.unusedVariables false

theorem info_u8 : (Try.prog.info? 5).map (fun i => (i.zero, i.size, i.bytes)) = some (some (.int .u8 0), 1, 1) := by kernel_rfl

def validB (n : Nat) (s : Int) : Bool := decide (0 ≤ s ∧ s ≤ n ∧ n ≤ 1048576)

set_option maxHeartbeats 400000 in
theorem valid_any (A : Option Addr) (n c : Nat) (s : Int) (w : World) :
    Calls Try.prog 37 #[.agg #[.slice A n c, .int .i64 s]] w fun e w' => e = .returned (.bool (validB n s)) ∧ Below w.heap.size w w' := by
  by_cases h1 : 0 ≤ s
  · by_cases h2 : s ≤ n
    all_goals
      go_enter Try.func37, Try.ntmps37
      go_wp2
      go_ret
      refine ⟨ret_bool ?_, (Below.refl _ _).alloc (Nat.le_refl _) _⟩
      simp [validB, h1, h2]
      try omega
  · go_enter Try.func37, Try.ntmps37
    go_wp2
    go_ret
    refine ⟨ret_bool ?_, (Below.refl _ _).alloc (Nat.le_refl _) _⟩
    simp [validB]
    try omega

set_option maxHeartbeats 400000 in
theorem rvalid_any (A : Option Addr) (n c : Nat) (s : Int) (w : World) :
    Calls Try.prog 36 #[.agg #[.slice A n c, .int .i64 s]] w fun e w' => e = .returned (.bool (validB n s)) ∧ Below w.heap.size w w' := by
  by_cases h1 : 0 ≤ s
  · by_cases h2 : s ≤ n
    all_goals
      go_enter Try.func36, Try.ntmps36
      go_wp2
      go_ret
      refine ⟨ret_bool ?_, (Below.refl _ _).alloc (Nat.le_refl _) _⟩
      simp [validB, h1, h2]
      try omega
  · go_enter Try.func36, Try.ntmps36
    go_wp2
    go_ret
    refine ⟨ret_bool ?_, (Below.refl _ _).alloc (Nat.le_refl _) _⟩
    simp [validB]
    try omega

def ROwn (w : World) (l : List UInt8) : Ending → World → Prop := Ret w fun v w' => ∃ A n c, v = .slice A n c ∧ OwB w' w.heap.size 5 A n c l

set_option maxHeartbeats 400000 in
theorem clone_any (A : Option Addr) (n c : Nat) (l : List UInt8) (w : World) (hr : RdB w A n c l) (hn : n ≤ 140737488355328) :
    Calls Try.prog 31 #[.slice A n c] w (ROwn w l) := by
  obtain ⟨i0, hi0, hz0, hz1, hz2⟩ := info_parts info_u8
  cases A with
  | none =>
    have hl : l = [] := by
      have h0 : n = 0 := by
        rcases Nat.eq_zero_or_pos n with h | h
        · exact h
        · obtain ⟨ad, h, _⟩ := hr.reads.2 h; cases h
      exact List.eq_nil_of_length_eq_zero (by rw [← hr.len]; exact h0)
    have he := fun w : World => Lib.run_eql_slice_nil (P := Try.prog) w 22 5 none n c 0 0 Try.underlying22
    go_enter Try.func31, Try.ntmps31
    go_wp2
    go_ret
    subst hl
    exact ⟨_, rfl, ⟨_, _, _, rfl, OwB.nil _ _ _⟩, Below.refl _ _⟩
  | some a =>
    have he := fun w : World => Lib.run_eql_slice_nil (P := Try.prog) w 22 5 (some a) n c 0 0 Try.underlying22
    go_enter Try.func31, Try.ntmps31
    go_wp2_with (at_builtin; refine wpList_append_b _ rfl (.tmp 5) (.tmp 6) _ rfl w.heap.size 5 i0 Try.underlying22 hi0 hz0 hz1 hz2 _ _ _ _ rfl (OwB.made0 _ _ _ (Nat.le_refl _)) _ _ _ l rfl (hr.alloc _) (by omega) (by simp) ?_; intro A1 c1 w1 ho1 hg1)
    go_ret
    refine ⟨_, rfl, ⟨_, _, _, rfl, by simpa using ho1⟩, ?_⟩
    exact ((Below.refl _ _).alloc (Nat.le_refl _) _).grown hg1 (by simp) (by simp [Value.ownBlock])

theorem u8_parts : ∃ i, Try.prog.info? 5 = some i ∧ i.zero = some (.int .u8 0) ∧ i.size = 1 ∧ i.bytes = 1 := by
  obtain ⟨i0, hi0, hz0, hz1, hz2⟩ := info_parts info_u8
  exact ⟨i0, hi0, hz0, hz1, hz2⟩

set_option maxHeartbeats 400000 in
theorem grow_any (k : Nat) (w : World) (hk : k ≤ 140737488355328) :
    Calls Try.prog 44 #[.slice none 0 0, .int .i64 k] w (Ret w fun v w' => ∃ A c, v = .slice A 0 c ∧ OwB w' w.heap.size 5 A 0 c []) := by
  obtain ⟨i0, hi0, hz0, hz1, hz2⟩ := u8_parts
  rcases Nat.eq_zero_or_pos k with rfl | h0
  · go_enter Try.func44, Try.ntmps44
    go_wp2
    go_ret
    exact ⟨_, rfl, ⟨_, _, rfl, OwB.nil _ _ _⟩, Below.refl _ _⟩
  · have hrun := fun w : World => Lib.run_append_nil_zeros (P := Try.prog) w 22 3 22 5 i0 (.int .u8 0) .i64 .i64 Try.underlying22 Try.underlying3 hi0 hz0 k h0 (by omega) (by omega) (by rw [hz2]; omega)
    have hp : (0 : Int) < (k : Int) := by omega
    have hn : ¬ (k : Int) < 0 := by omega
    go_enter Try.func44, Try.ntmps44
    have hz : grownCap w k 0 5 ≤ maxLen := grownCap_le_maxLen w k 0 5 (Nat.le_trans hk pow47)
    have hge : k ≤ grownCap w k 0 5 := grownCap_ge w k 0 5
    generalize hcap : grownCap w k 0 5 = cap at hz hge
    have hrw := hrun w
    rw [hcap] at hrw
    clear hrun hcap
    go_wp2_with (at_builtin; refine Lib.wpList_append_run _ rfl (.tmp 20) (.tmp 21) _ _ rfl _ _ rfl rfl _ _ hrw ?_)
    go_ret
    refine ⟨_, rfl, ⟨_, _, rfl, ⟨rfl, Nat.zero_le _, hz, ?_⟩⟩, ((Below.refl _ _).drew).alloc (by simp) _⟩
    exact World.ownsRow_made w.drew _ _ (Nat.le_refl _) hz (by simp [size_zeroCells, Value.cells]; omega)

/-- a row of byte slices at block g -/
def RowsB (w : World) (g : Nat) (L : List (List UInt8)) : Prop := g < w.heap.size ∧ ∀ k l, L[k]? = some l → ∃ A n c, w.cell? ⟨g, k, none⟩ = some (.slice A n c) ∧ RdB w A n c l
theorem RowsB.below {w w' : World} {g : Nat} {L : List (List UInt8)} (h : RowsB w g L) (hb : Below w.heap.size w w') : RowsB w' g L :=
  ⟨Nat.lt_of_lt_of_le h.1 hb.size, fun k l hl => by
    obtain ⟨A, n, c, h1, h2⟩ := h.2 k l hl
    exact ⟨A, n, c, (hb.cell (p := ⟨g, k, none⟩) h.1).trans h1, h2.below hb⟩⟩

def cat (L : List (List UInt8)) (k : Nat) : List UInt8 := (L.take k).flatten
theorem cat_zero (L : List (List UInt8)) : cat L 0 = [] := by simp [cat]
theorem cat_succ (L : List (List UInt8)) (k : Nat) (l : List UInt8) (h : L[k]? = some l) : cat L (k + 1) = cat L k ++ l := by
  unfold cat
  rw [List.take_add_one, h]
  simp
theorem cat_all (L : List (List UInt8)) : cat L L.length = L.flatten := by simp [cat]
theorem cat_le (L : List (List UInt8)) (k : Nat) : (cat L k).length ≤ (cat L L.length).length := by
  rw [cat_all]
  conv => rhs; rw [← List.take_append_drop k L]
  rw [List.flatten_append, List.length_append]
  exact Nat.le_add_right _ _

set_option maxHeartbeats 800000 in
theorem concat_any (g m c0 : Nat) (L : List (List UInt8)) (w : World) (hL : RowsB w g L) (hm : L.length ≤ 1000) (hf : (cat L L.length).length ≤ 140737488355328) :
    Calls Try.prog 28 #[.slice (some ⟨g, 0, none⟩) L.length c0] w (ROwn w (cat L L.length)) := by
  obtain ⟨i0, hi0, hz0, hz1, hz2⟩ := u8_parts
  go_enter Try.func28, Try.ntmps28
  go_wp2
  go_loop [3, 11] (fun s i => ∃ k : Nat, k ≤ L.length ∧ i = .int .i64 k ∧ s = .int .i64 (cat L k).length) (fun _ i => L.length - (intOf i).toNat)
  case atStart => exact ⟨0, Nat.zero_le _, rfl, by rw [cat_zero]; rfl⟩
  case round =>
    obtain ⟨k, hk, rfl, rfl⟩ := hrel
    have hle := cat_le L k
    by_cases hlt : k < L.length
    · obtain ⟨l, hl⟩ : ∃ l, L[k]? = some l := ⟨_, List.getElem?_eq_getElem hlt⟩
      obtain ⟨A, n, c, hcell, hrd⟩ := hL.2 k l hl
      have hs2 : (cat L (k + 1)).length = (cat L k).length + n := by rw [cat_succ L k l hl, List.length_append, hrd.len]
      have hub : (cat L k).length + n ≤ 140737488355328 := by have := cat_le L (k + 1); omega
      have HS := Lib.hid hs2
      clear hs2 hl hrd
      go_wp2
      go_round
      case rel => exact ⟨k + 1, by omega, by go_num, by rw [HS.out]; go_num⟩
      case measure => simp [intOf]; omega
    · have hkk : k = L.length := by omega
      subst hkk
      clear hlt hk hle
      go_wp2_with (go_at_call 44; refine (grow_any _ _ hf).mono ?_; rintro e w1 ⟨v1, rfl, ⟨A1, c1, rfl, ho1⟩, hb1⟩)
      go_loopw [6, 27] (fun s i wr => ∃ (k : Nat) (A : Option Addr) (n c : Nat), k ≤ L.length ∧ i = .int .i64 k ∧ s = .slice A n c ∧ OwB wr w.heap.size 5 A n c (cat L k) ∧ Below w.heap.size w wr) (fun _ i _ => L.length - (intOf i).toNat)
      case atStart => exact ⟨0, A1, 0, c1, Nat.zero_le _, rfl, rfl, by rw [cat_zero]; exact ho1, hb1⟩
      case round =>
        obtain ⟨k, A2, n2, c2, hk, rfl, rfl, ho2, hb2⟩ := hrel
        by_cases hlt : k < L.length
        · obtain ⟨l, hl⟩ : ∃ l, L[k]? = some l := ⟨_, List.getElem?_eq_getElem hlt⟩
          obtain ⟨A, n, c, hcell0, hrd0⟩ := hL.2 k l hl
          have hcell := (hb2.cell (p := ⟨g, k, none⟩) hL.1).trans hcell0
          have hrd := hrd0.below hb2
          have hub : n2 + n ≤ 140737488355328 := by
            have h1 := cat_le L (k + 1)
            rw [cat_succ L k l hl, List.length_append] at h1
            have h2 := ho2.len
            have h3 := hrd.len
            omega
          have HS := Lib.hid (cat_succ L k l hl)
          clear hl hcell0 hrd0
          go_wp2_with (at_builtin; refine wpList_append_b _ rfl (.tmp 31) (.tmp 32) _ rfl w.heap.size 5 i0 Try.underlying22 hi0 hz0 hz1 hz2 _ _ _ _ rfl ho2 _ _ _ l rfl hrd hub hb2.size ?_; intro A3 c3 w3 ho3 hg3)
          go_roundw
          case rel => exact ⟨k + 1, A3, n2 + n, c3, by omega, by go_num, rfl, by rw [HS.out]; exact ho3, hb2.grown hg3 hb2.size (fun j hj => (ho2.own.lt j hj).1)⟩
          case measure => simp [intOf]; omega
        · have hkk : k = L.length := by omega
          subst hkk
          clear hlt hk
          go_wp2
          go_ret
          exact ⟨_, rfl, ⟨_, _, _, rfl, ho2⟩, hb2⟩

end Go.Proofs.Ytaagmiidapammaa
