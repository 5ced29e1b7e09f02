/- The walks of the sums and of the numbers of package journal and of its reference. -/
import Derived.Test.YtaagmiidapammaaJPlain
import Derived.Test.YtaagmiidapammaaGen2
import Derived.Test.YtaagmiidapammaaWords2
namespace Go.Proofs.Ytaagmiidapammaa
open Go.RowKit
set_option linter.unusedSimpArgs false
set_option linter.unusedVariables false

theorem fnv_take {h : UInt32} {l : List UInt8} {k : Nat} (hk : k < l.length) : fnv h (l.take (k + 1)) = fnvS (fnv h (l.take k)) (l.getD k 0) := by
  rw [List.take_succ_eq_append_getElem hk, fnv_append, List.getD_eq_getElem?_getD, List.getElem?_eq_getElem hk]
  rfl
theorem xor_u32 (a b : UInt32) : bits .xor .u32 (a.toNat : Int) (b.toNat : Int) = ((a ^^^ b).toNat : Int) := by
  have ha := a.toNat_lt
  have hb := b.toNat_lt
  have hx : a.toNat ^^^ b.toNat < 2 ^ 32 := Nat.xor_lt_two_pow (by omega) (by omega)
  have e : ∀ x : UInt32, (BitVec.ofInt 32 (x.toNat : Int)).toNat = x.toNat := by
    intro x
    have := x.toNat_lt
    rw [BitVec.ofInt_natCast, BitVec.toNat_ofNat]
    exact Nat.mod_eq_of_lt (by omega)
  show IntKind.u32.wrap ((BitVec.ofInt 32 (a.toNat : Int) ^^^ BitVec.ofInt 32 (b.toNat : Int)).toNat : Int) = _
  rw [BitVec.toNat_xor, e, e, UInt32.toNat_xor, IntKind.wrap_u32]
  omega
theorem fnv_word (h : UInt32) (b : UInt8) : IntKind.u32.wrap (bits .xor .u32 (h.toNat : Int) (b.toNat : Int) * 16777619) = ((fnvS h b).toNat : Int) := by
  have e : ((b.toNat : Nat) : Int) = ((b.toUInt32.toNat : Nat) : Int) := by simp
  rw [e, xor_u32, IntKind.wrap_u32, fnvS, UInt32.toNat_mul, show UInt32.toNat 16777619 = 16777619 from rfl]
  omega

set_option maxHeartbeats 400000 in
theorem sum_any (A : Option Addr) (n c : Nat) (l : List UInt8) (w : World) (hr : RdB w A n c l) :
    Calls Try.prog 14 #[.slice A n c] w fun e w' => e = .returned (.int .u32 ((sumP l).toNat : Int)) ∧ w = w' := by
  have hmax : n ≤ maxLen := Nat.le_trans hr.cap hr.max
  have hln := hr.len
  unfold maxLen at hmax
  go_enter Try.func14, Try.ntmps14
  go_wp2
  go_loop [3, 8] (fun s i => ∃ k : Nat, k ≤ n ∧ i = .int .i64 k ∧ s = .int .u32 ((fnv 2166136261 (l.take k)).toNat : Int)) (fun _ i => n - (intOf i).toNat)
  case atStart => exact ⟨0, Nat.zero_le _, rfl, rfl⟩
  case round =>
    obtain ⟨k, hk, rfl, rfl⟩ := hrel
    by_cases hlt : k < n
    · obtain ⟨b, off, rfl, hb, hc⟩ := hr.opened (by omega)
      have hcell := hc k hlt
      have HS := Lib.hid (fnv_take (h := 2166136261) (l := l) (k := k) (by omega))
      have hw := fnv_word (fnv 2166136261 (l.take k)) (l.getD k 0)
      clear hc
      generalize fnv 2166136261 (l.take k) = h at hw HS ⊢
      generalize l.getD k 0 = x at hw HS hcell ⊢
      have hx := x.toNat_lt
      go_wp2
      go_round
      case rel => exact ⟨k + 1, by omega, by go_num, by rw [HS.out]⟩
      case measure => simp [intOf]; omega
    · go_wp2
      go_ret
      exact ⟨by rw [List.take_of_length_le (by omega)]; rfl, rfl⟩

set_option maxHeartbeats 400000 in
theorem rsum_any (A : Option Addr) (n c : Nat) (l : List UInt8) (w : World) (hr : RdB w A n c l) :
    Calls Try.prog 15 #[.slice A n c] w fun e w' => e = .returned (.int .u32 ((sumP l).toNat : Int)) ∧ w = w' := by
  have hmax : n ≤ maxLen := Nat.le_trans hr.cap hr.max
  have hln := hr.len
  unfold maxLen at hmax
  go_enter Try.func15, Try.ntmps15
  go_wp2
  go_loop [3, 4] (fun s i => ∃ k : Nat, k ≤ n ∧ i = .int .i64 k ∧ s = .int .u32 ((fnv 2166136261 (l.take k)).toNat : Int)) (fun _ i => n - (intOf i).toNat)
  case atStart => exact ⟨0, Nat.zero_le _, rfl, rfl⟩
  case round =>
    obtain ⟨k, hk, rfl, rfl⟩ := hrel
    by_cases hlt : k < n
    · obtain ⟨b, off, rfl, hb, hc⟩ := hr.opened (by omega)
      have hcell := hc k hlt
      have HS := Lib.hid (fnv_take (h := 2166136261) (l := l) (k := k) (by omega))
      have hw := fnv_word (fnv 2166136261 (l.take k)) (l.getD k 0)
      clear hc
      generalize fnv 2166136261 (l.take k) = h at hw HS ⊢
      generalize l.getD k 0 = x at hw HS hcell ⊢
      have hx := x.toNat_lt
      go_wp2
      go_round
      case rel => exact ⟨k + 1, by omega, by go_num, by rw [HS.out]⟩
      case measure => simp [intOf]; omega
    · go_wp2
      go_ret
      exact ⟨by rw [List.take_of_length_le (by omega)]; rfl, rfl⟩


theorem val_take {l : List UInt8} {k : Nat} (hk : k < l.length) : val (l.take (k + 1)) = val (l.take k) * 256 + (l.getD k 0).toNat := by
  rw [List.take_succ_eq_append_getElem hk, val_snoc, List.getD_eq_getElem?_getD, List.getElem?_eq_getElem hk]
  rfl
theorem val_bound {l : List UInt8} {k : Nat} (h : l.length ≤ 8) (hk : k < l.length) : val (l.take k) < 72057594037927936 := by
  have h1 := val_lt (l.take k)
  have h2 : 256 ^ (l.take k).length ≤ 256 ^ 7 := Nat.pow_le_pow_right (by omega) (by rw [List.length_take]; omega)
  omega
theorem or_byte (v : Nat) (b : UInt8) (hv : v < 72057594037927936) : bits .or .u64 (IntKind.u64.wrap ((v : Int) * 256)) (b.toNat : Int) = ((v * 256 + b.toNat : Nat) : Int) := by
  have hb := b.toNat_lt
  have e1 : IntKind.u64.wrap ((v : Int) * 256) = ((v * 256 : Nat) : Int) := by rw [IntKind.wrap_u64]; omega
  rw [e1]
  show IntKind.u64.wrap ((BitVec.ofInt 64 ((v * 256 : Nat) : Int) ||| BitVec.ofInt 64 (b.toNat : Int)).toNat : Int) = _
  rw [BitVec.ofInt_natCast, BitVec.ofInt_natCast, BitVec.toNat_or, BitVec.toNat_ofNat, BitVec.toNat_ofNat, Nat.mod_eq_of_lt (by omega), Nat.mod_eq_of_lt (by omega)]
  have e2 : v * 256 ||| b.toNat = v * 256 + b.toNat := by
    have := Nat.two_pow_add_eq_or_of_lt (i := 8) (b := b.toNat) (by omega) v
    rw [show v * 256 = 2 ^ 8 * v by omega]
    exact this.symm
  rw [e2, IntKind.wrap_u64]
  omega

theorem add_byte (v : Nat) (b : UInt8) (hv : v < 72057594037927936) : IntKind.u64.wrap (IntKind.u64.wrap ((v : Int) * 256) + (b.toNat : Int)) = ((v * 256 + b.toNat : Nat) : Int) := by
  have hb := b.toNat_lt
  rw [IntKind.wrap_u64, IntKind.wrap_u64]
  omega

set_option maxHeartbeats 400000 in
theorem get_any (A : Option Addr) (n c : Nat) (l : List UInt8) (w : World) (hr : RdB w A n c l) (h8 : n ≤ 8) :
    Calls Try.prog 30 #[.slice A n c] w fun e w' => e = .returned (.int .u64 (val l : Int)) ∧ w = w' := by
  have hln := hr.len
  go_enter Try.func30, Try.ntmps30
  go_wp2
  go_loop [3, 8] (fun s i => ∃ k : Nat, k ≤ n ∧ i = .int .i64 k ∧ s = .int .u64 (val (l.take k) : Int)) (fun _ i => n - (intOf i).toNat)
  case atStart => exact ⟨0, Nat.zero_le _, rfl, rfl⟩
  case round =>
    obtain ⟨k, hk, rfl, rfl⟩ := hrel
    by_cases hlt : k < n
    · obtain ⟨b, off, rfl, hb, hc⟩ := hr.opened (by omega)
      have hcell := hc k hlt
      have hv := val_bound (l := l) (k := k) (by omega) (by omega)
      have HS := Lib.hid (val_take (l := l) (k := k) (by omega))
      have hw := or_byte (val (l.take k)) (l.getD k 0) hv
      clear hc
      generalize val (l.take k) = h at hw HS hv ⊢
      generalize l.getD k 0 = x at hw HS hcell ⊢
      have hx := x.toNat_lt
      have HV := Lib.hid hv
      clear hv
      go_wp2
      go_round
      case rel => exact ⟨k + 1, by omega, by go_num, by rw [HS.out]; go_num⟩
      case measure => simp [intOf]; omega
    · go_wp2
      go_ret
      exact ⟨by rw [List.take_of_length_le (by omega)]; rfl, rfl⟩

set_option maxHeartbeats 400000 in
theorem value_any (A : Option Addr) (n c : Nat) (l : List UInt8) (w : World) (hr : RdB w A n c l) (h8 : n ≤ 8) :
    Calls Try.prog 45 #[.slice A n c] w fun e w' => e = .returned (.int .u64 (val l : Int)) ∧ w = w' := by
  have hln := hr.len
  go_enter Try.func45, Try.ntmps45
  go_wp2
  go_loop [3, 4] (fun s i => ∃ k : Nat, k ≤ n ∧ i = .int .i64 k ∧ s = .int .u64 (val (l.take k) : Int)) (fun _ i => n - (intOf i).toNat)
  case atStart => exact ⟨0, Nat.zero_le _, rfl, rfl⟩
  case round =>
    obtain ⟨k, hk, rfl, rfl⟩ := hrel
    by_cases hlt : k < n
    · obtain ⟨b, off, rfl, hb, hc⟩ := hr.opened (by omega)
      have hcell := hc k hlt
      have hv := val_bound (l := l) (k := k) (by omega) (by omega)
      have hw := add_byte (val (l.take k)) (l.getD k 0) hv
      have HS := Lib.hid (val_take (l := l) (k := k) (by omega))
      clear hc
      generalize val (l.take k) = h at hw HS hv ⊢
      generalize l.getD k 0 = x at hw HS hcell ⊢
      have hx := x.toNat_lt
      have HV := Lib.hid hv
      clear hv
      go_wp2
      go_round
      case rel => exact ⟨k + 1, by omega, by go_num, by rw [HS.out]; go_num⟩
      case measure => simp [intOf]; omega
    · go_wp2
      go_ret
      exact ⟨by rw [List.take_of_length_le (by omega)]; rfl, rfl⟩

end Go.Proofs.Ytaagmiidapammaa
