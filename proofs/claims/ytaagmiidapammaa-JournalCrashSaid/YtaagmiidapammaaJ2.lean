/- The walks of put and big. -/
import Derived.Test.YtaagmiidapammaaJ1
import Derived.Test.YtaagmiidapammaaOwn
namespace Go.Proofs.Ytaagmiidapammaa
open Go.RowKit
set_option linter.unusedSimpArgs false
set_option linter.unusedVariables false

theorem heap_new_o' {w : World} {o : Obj} {g : Nat} (h : g = w.heap.size) : (w.alloc o).heap[g]? = some o := by rw [heap_alloc_get, if_pos h]

theorem RdB.lit1 {w : World} {t : Nat} {x : Int} {b : UInt8} (h : x = (b.toNat : Int)) : RdB (w.alloc (.cells #[.int .u8 x] t)) (some ⟨w.heap.size, 0, none⟩) 1 1 [b] := by
  subst h
  exact RdB.lit (heap_new_o' rfl) rfl rfl (Nat.le_refl _) (by unfold maxLen; omega)
theorem byte_at (v m : Nat) : (v : Int) / 2 ^ (8 * m) % 256 = ((UInt8.ofNat (v / 256 ^ m)).toNat : Int) := by
  have e : (2 : Int) ^ (8 * m) = ((256 ^ m : Nat) : Int) := by
    rw [Int.pow_mul, Int.natCast_pow]
    rfl
  rw [e, UInt8.toNat_ofNat', ← Int.natCast_ediv]
  omega
theorem be_next (v m k : Nat) (hm : m < k) : be (v / 256 ^ (m + 1)) (k - (m + 1)) ++ [UInt8.ofNat (v / 256 ^ m)] = be (v / 256 ^ m) (k - m) := by
  have e : k - m = (k - (m + 1)) + 1 := by omega
  rw [e, be, Nat.div_div_eq_div_mul, ← Nat.pow_succ]

def ROwG (base : Nat) (w : World) (A : Option Addr) (l : List UInt8) (e : Ending) (w' : World) : Prop := ∃ A' n' c', e = .returned (.slice A' n' c') ∧ OwB w' base 5 A' n' c' l ∧ OwG base w w' A A'

set_option maxHeartbeats 800000 in
theorem put_any (base : Nat) (A : Option Addr) (n c : Nat) (l : List UInt8) (v k : Nat) (K : Int) (hK : K = (k : Int)) (w : World) (ho : OwB w base 5 A n c l) (hb : base ≤ w.heap.size) (hk8 : k ≤ 8) (hn : n ≤ 1000000) :
    Calls Try.prog 27 #[.slice A n c, .int .u64 (v : Int), .int .i64 K] w (ROwG base w A (l ++ be v k)) := by
  subst hK
  obtain ⟨i0, hi0, hz0, hz1, hz2⟩ := u8_parts
  go_enter Try.func27, Try.ntmps27
  go_wp2
  go_loopw [0, 7] (fun b i wr => ∃ (m : Nat) (A1 : Option Addr) (n1 c1 : Nat), m ≤ k ∧ i = .int .i64 ((m : Int) - 1) ∧ b = .slice A1 n1 c1 ∧ OwB wr base 5 A1 n1 c1 (l ++ be (v / 256 ^ m) (k - m)) ∧ n1 + m = n + k ∧ OwG base w wr A A1) (fun _ i _ => (intOf i + 1).toNat)
  case atStart => exact ⟨k, A, n, c, Nat.le_refl _, rfl, rfl, by rw [Nat.sub_self]; simpa [be] using ho, rfl, OwG.refl _ _ _⟩
  case round =>
    obtain ⟨m, A1, n1, c1, hm, rfl, rfl, ho1, hn1, hg1⟩ := hrel
    cases m with
    | zero =>
      have e0 : ((0 : Nat) : Int) - 1 = -1 := rfl
      rw [e0]
      clear e0
      go_wp2
      go_ret
      exact ⟨A1, n1, c1, rfl, by simpa using ho1, hg1⟩
    | succ m =>
      have e0 : ((m + 1 : Nat) : Int) - 1 = (m : Int) := by omega
      rw [e0]
      have hm8 : (m : Int) ≤ 7 := by omega
      have hm0 : (0 : Int) ≤ (m : Int) := by omega
      clear e0
      have HB := Lib.hid (byte_at v m)
      go_wp2_with (at_builtin; go_must (refine wpList_append_g _ rfl (.tmp 14) (.tmp 20) _ rfl base 5 i0 Try.underlying22 hi0 hz0 hz1 hz2 A1 n1 c1 (l ++ be (v / 256 ^ (m + 1)) (k - (m + 1))) rfl ?_ (some ⟨wr.heap.size, 0, none⟩) 1 1 [UInt8.ofNat (v / 256 ^ m)] rfl ?_ ?_ ?_ ?_; (focus exact OwB.alloc _ ho1); (focus exact RdB.lit1 HB.out); (focus omega); (focus (simp; have := hg1.b.size; omega)); intro A2 c2 w2 ho2 hg2))
      go_roundw
      case rel => exact ⟨m, A2, n1 + 1, c2, by omega, rfl, rfl, by rw [List.append_assoc, be_next v m k (by omega)] at ho2; exact ho2, by omega, hg1.trans (hg2.alloc_left (Nat.le_trans hb hg1.b.size))⟩
      case measure => simp [intOf]

theorem set_mid (m : Nat) (x : UInt8) (r : List UInt8) : (List.replicate (m + 1) 0 ++ r).set m x = List.replicate m 0 ++ x :: r := by
  rw [List.replicate_succ', List.append_assoc, List.set_append_right _ _ (by simp)]
  simp

theorem div_word (v k m : Nat) (hm : m < k) (hv : v < 18446744073709551616) : IntKind.u64.wrap (((v / 256 ^ (k - (m + 1)) : Nat) : Int).tdiv 256) = ((v / 256 ^ (k - m) : Nat) : Int) := by
  have e : v / 256 ^ (k - m) = v / 256 ^ (k - (m + 1)) / 256 := by
    rw [Nat.div_div_eq_div_mul, ← Nat.pow_succ]
    congr 2
    omega
  have h1 : v / 256 ^ (k - (m + 1)) ≤ v := Nat.div_le_self _ _
  rw [e]
  generalize v / 256 ^ (k - (m + 1)) = q at h1 ⊢
  rw [Int.tdiv_eq_ediv_of_nonneg (by omega), IntKind.wrap_u64]
  omega
theorem mod_word (q : Nat) : ((q : Int).tmod 256 % 256) = ((UInt8.ofNat q).toNat : Int) := by
  rw [Int.tmod_eq_emod_of_nonneg (by omega), UInt8.toNat_ofNat']
  omega
theorem be_prev (v m k : Nat) (hm : m < k) : UInt8.ofNat (v / 256 ^ (k - (m + 1))) :: be v (k - (m + 1)) = be v (k - m) := by
  have e : k - m = (k - (m + 1)) + 1 := by omega
  rw [e, be_cons]

set_option maxHeartbeats 800000 in
theorem big_any (v k : Nat) (K : Int) (hK : K = (k : Int)) (w : World) (hk8 : k ≤ 8) (hv : v < 18446744073709551616) :
    Calls Try.prog 29 #[.int .u64 (v : Int), .int .i64 K] w (ROwn w (be v k)) := by
  subst hK
  obtain ⟨i0, hi0, hz0, hz1, hz2⟩ := u8_parts
  have hmk := fun W : World => run_make_u8 (P := Try.prog) (t := 22) Try.underlying22 hi0 hz0 hz1 hz2 k (by omega) W
  have HV := Lib.hid hv
  clear hv
  go_enter Try.func29, Try.ntmps29
  go_wp2
  go_loopw [0, 6] (fun b i wr => ∃ m : Nat, m ≤ k ∧ i = .int .i64 ((m : Int) - 1) ∧ b = .int .u64 ((v / 256 ^ (k - m) : Nat) : Int) ∧ OwB wr w.heap.size 5 (some ⟨w.heap.size, 0, none⟩) k k (List.replicate m 0 ++ be v (k - m)) ∧ Below w.heap.size w wr) (fun _ i _ => (intOf i + 1).toNat)
  case atStart => exact ⟨k, Nat.le_refl _, rfl, by simp, by simpa [be] using OwB.zeros (Nat.le_refl _) (by unfold maxLen; omega), (Below.refl _ _).alloc (Nat.le_refl _) _⟩
  case round =>
    obtain ⟨m, hm, rfl, rfl, ho1, hb1⟩ := hrel
    cases m with
    | zero =>
      have e0 : ((0 : Nat) : Int) - 1 = -1 := rfl
      rw [e0]
      clear e0
      go_wp2
      go_ret
      exact ⟨_, rfl, ⟨_, _, _, rfl, by simpa using ho1⟩, hb1⟩
    | succ m =>
      have e0 : ((m + 1 : Nat) : Int) - 1 = (m : Int) := by omega
      rw [e0]
      have hm1 : (m : Int) < (k : Int) := by omega
      have hm0 : (0 : Int) ≤ (m : Int) := by omega
      obtain ⟨g, hg, hg1, hg2, hcell, hfr⟩ := ho1.cellAt m (by omega)
      injection hg with hg
      injection hg with hg
      subst hg
      clear e0
      have HD := Lib.hid (div_word v k m (by omega) HV.out)
      have HM := Lib.hid (mod_word (v / 256 ^ (k - (m + 1))))
      have HP := Lib.hid (be_prev v m k (by omega))
      go_wp2
      have ho2 := ho1.stored m (UInt8.ofNat (v / 256 ^ (k - (m + 1))))
      rw [set_mid, HP.out, ← HM.out] at ho2
      go_roundw
      case rel => exact ⟨m, by omega, rfl, by rw [← HD.out]; go_num, by simpa using ho2, by (refine bel_out ?_; (focus (repeat' first | (with_reducible refine bel_refl ?_) | with_reducible assumption | with_reducible refine bel_drew ?_ | with_reducible refine bel_drewN _ ?_ | with_reducible refine bel_alloc _ ?_ | with_reducible refine bel_set ?_ _ ?_ | (with_reducible apply bel_call; with_reducible assumption) | (with_reducible apply bel_owg; with_reducible assumption; (focus omega)) | with_reducible exact Nat.le_refl _ | omega | (simp; done) | (simp; omega))))⟩
      case measure => simp [intOf]

end Go.Proofs.Ytaagmiidapammaa
