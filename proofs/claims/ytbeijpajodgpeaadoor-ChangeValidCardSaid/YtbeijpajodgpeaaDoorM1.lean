/- The walks of putNumber and trcref26.number. -/
import Derived.Test.YtbeijpajodgpeaaDoorCP1
import Derived.Test.YtbeijpajodgpeaaDoorOwn
import Derived.Lib.AppendStr
import Derived.Deep.RegionHeld3
import Derived.Deep.QuietTactic
import Derived.Deep.RegionLaw
import Derived.Test.YtbeijpajodgpeaaDoorCR
import Derived.Test.YtbeijpajodgpeaaDoorC2
namespace Go.Proofs.YtbeijpajodgpeaaDoor
open Go.RowKit
set_option linter.unusedSimpArgs false
set_option linter.unusedVariables false

theorem info_u8c : (Tryd.prog.info? 5).map (fun i => (i.zero, i.size, i.bytes)) = some (some (.int .u8 0), 1, 1) := by kernel_rfl
theorem u8_parts : ∃ i, Tryd.prog.info? 5 = some i ∧ i.zero = some (.int .u8 0) ∧ i.size = 1 ∧ i.bytes = 1 := by
  obtain ⟨i0, hi0, hz0, hz1, hz2⟩ := info_parts info_u8c
  exact ⟨i0, hi0, hz0, hz1, hz2⟩
theorem heap_new_o' {w : World} {o : Obj} {g : Nat} (h : g = w.heap.size) : (w.alloc o).heap[g]? = some o := by rw [heap_alloc_get, if_pos h]
theorem RdB.lit1 {w : World} {t : Nat} {x : Int} {b : UInt8} (h : x = (b.toNat : Int)) : RdB (w.alloc (.cells #[.int .u8 x] t)) (some ⟨w.heap.size, 0, none⟩) 1 1 [b] := by
  subst h
  exact RdB.lit (heap_new_o' rfl) rfl rfl (Nat.le_refl _) (by unfold maxLen; omega)
theorem nmb_len : ∀ (k n : Nat), n < 128 ^ (k + 1) → (nmb n).length ≤ k + 1 := by
  intro k
  induction k with
  | zero =>
    intro n h
    rw [nmb_lt (by simpa using h)]
    simp
  | succ k ih =>
    intro n h
    rcases Nat.lt_or_ge n 128 with h1 | h1
    · rw [nmb_lt h1]; simp
    · rw [nmb_ge h1, List.length_cons]
      have := ih (n / 128) (Nat.div_lt_of_lt_mul (by rw [Nat.pow_succ] at h; rw [Nat.mul_comm]; exact h))
      omega
theorem nmb_pos (n : Nat) : 1 ≤ (nmb n).length := by
  rcases Nat.lt_or_ge n 128 with h1 | h1
  · rw [nmb_lt h1]; simp
  · rw [nmb_ge h1]; simp
theorem or128 : ∀ m : Fin 256, bits .or .u8 ((m.val : Nat) : Int) 128 = ((128 + m.val % 128 : Nat) : Int) := by decide +kernel
theorem or128_any (v : Nat) : bits .or .u8 ((v : Int) % 256) 128 = ((UInt8.ofNat (128 + v % 128)).toNat : Int) := by
  have h1 : (v : Int) % 256 = ((v % 256 : Nat) : Int) := by omega
  rw [h1]
  have := or128 ⟨v % 256, by omega⟩
  simp only [] at this
  rw [this, UInt8.toNat_ofNat']
  omega
theorem last_byte {v : Nat} (h : v < 128) : (v : Int) = ((UInt8.ofNat v).toNat : Int) := by
  rw [UInt8.toNat_ofNat']
  omega
theorem ref128 (v : Nat) : (128 : Int) + (v : Int) % 128 = ((UInt8.ofNat (128 + v % 128)).toNat : Int) := by
  rw [UInt8.toNat_ofNat']
  omega
theorem head_byte (v : Nat) (l : List UInt8) (h : 128 ≤ v) : l ++ [UInt8.ofNat (128 + v % 128)] ++ nmb (v / 128) = l ++ nmb v := by
  rw [nmb_ge h, List.append_assoc]; rfl
/-- what was put behind the bytes -/
def RPut (base : Nat) (w : World) (A : Option Addr) (l : List UInt8) (e : Ending) (w' : World) : Prop := ∃ A' n' c', e = .returned (.slice A' n' c') ∧ OwB w' base 5 A' n' c' l ∧ OwG base w w' A A'

set_option maxRecDepth 100000 in
set_option maxHeartbeats 4000000 in
theorem putnum_any (A : Option Addr) (n c : Nat) (l : List UInt8) (base m : Nat) (w : World) (ho : OwB w base 5 A n c l) (hb : base ≤ w.heap.size) (hn : n ≤ 70368744177664) (hm : m < 1099511627776) :
    Calls Tryd.prog 27 #[.slice A n c, .int .i64 m] w (RPut base w A (l ++ nmb m)) := by
  obtain ⟨i0, hi0, hz0, hz1, hz2⟩ := u8_parts
  have hlm := nmb_len 5 m (by omega)
  have hlen := ho.len
  go_enter Tryd.func27, Tryd.ntmps27
  go_wp2_with fail
  go_loopw [0, 1] (fun s t wr => ∃ (v : Nat) (A1 : Option Addr) (n1 c1 : Nat) (l1 : List UInt8), s = .slice A1 n1 c1 ∧ t = .int .i64 v ∧ v ≤ m ∧ n1 + (nmb v).length ≤ n + 6 ∧ OwB wr base 5 A1 n1 c1 l1 ∧ OwG base w wr A A1 ∧ base ≤ wr.heap.size ∧ Hid (l1 ++ nmb v = l ++ nmb m)) (fun _ t _ => (intOf t).toNat)
  case atStart => exact ⟨m, A, n, c, l, rfl, rfl, Nat.le_refl _, by omega, ho, OwG.refl _ _ _, hb, Lib.hid rfl⟩
  case round =>
    obtain ⟨v, A1, n1, c1, l1, rfl, rfl, hv, hn1, ho1, hg1, hb1, HE⟩ := hrel
    have hp := nmb_pos v
    by_cases h128 : 128 ≤ v
    · have HX := Lib.hid (or128_any v)
      have HG : Hid (nmb v = UInt8.ofNat (128 + v % 128) :: nmb (v / 128)) := Lib.hid (nmb_ge h128)
      have hl2 : n1 + 1 + (nmb (v / 128)).length ≤ n + 6 := by rw [nmb_ge h128, List.length_cons] at hn1; omega
      have z0 : (128 : Int) ≤ (v : Int) := by omega
      go_wp2_with (at_builtin; go_must (refine wpList_append_g _ rfl (.tmp 9) (.tmp 13) 33 rfl base 5 i0 Tryd.underlying33 hi0 hz0 hz1 hz2 A1 n1 c1 l1 rfl (ho1.alloc _) (some ⟨wr.heap.size, 0, none⟩) 1 1 [UInt8.ofNat (128 + v % 128)] rfl (RdB.lit1 HX.out) ?_ ?_ ?_; (focus omega); (focus (rw [size_alloc_]; omega)); intro A2 c2 w2 ho2 hg2))
      go_roundw
      case rel => exact ⟨v / 128, A2, n1 + 1, c2, _, rfl, by go_num, by omega, hl2, ho2, hg1.trans (hg2.alloc_left hb1), Nat.le_trans hb1 (by have := hg2.g.size; rw [size_alloc_] at this; omega), Lib.hid (by rw [head_byte v l1 h128]; exact HE.out)⟩
      case measure => simp [intOf]; omega
    · have hv2 : v < 128 := by omega
      have HX := Lib.hid (last_byte hv2)
      have HG : Hid (nmb v = [UInt8.ofNat v]) := Lib.hid (nmb_lt hv2)
      have z0 : (v : Int) < 128 := by omega
      go_wp2_with (at_builtin; go_must (refine wpList_append_g _ rfl (.tmp 15) (.tmp 18) 33 rfl base 5 i0 Tryd.underlying33 hi0 hz0 hz1 hz2 A1 n1 c1 l1 rfl (ho1.alloc _) (some ⟨wr.heap.size, 0, none⟩) 1 1 [UInt8.ofNat v] rfl (RdB.lit1 HX.out) ?_ ?_ ?_; (focus omega); (focus (rw [size_alloc_]; omega)); intro A2 c2 w2 ho2 hg2))
      go_ret
      exact ⟨A2, n1 + 1, c2, rfl, by rw [← HE.out, HG.out]; exact ho2, hg1.trans (hg2.alloc_left hb1)⟩
set_option maxRecDepth 100000 in
set_option maxHeartbeats 4000000 in
theorem rnum_any (A : Option Addr) (n c : Nat) (l : List UInt8) (base m : Nat) (w : World) (ho : OwB w base 5 A n c l) (hb : base ≤ w.heap.size) (hn : n ≤ 70368744177664) (hm : m < 1099511627776) :
    Calls Tryd.prog 57 #[.slice A n c, .int .i64 m] w (RPut base w A (l ++ nmb m)) := by
  obtain ⟨i0, hi0, hz0, hz1, hz2⟩ := u8_parts
  have hlm := nmb_len 5 m (by omega)
  have hlen := ho.len
  go_enter Tryd.func57, Tryd.ntmps57
  go_wp2_with fail
  go_loopw [0, 1] (fun s t wr => ∃ (v : Nat) (A1 : Option Addr) (n1 c1 : Nat) (l1 : List UInt8), s = .slice A1 n1 c1 ∧ t = .int .i64 v ∧ v ≤ m ∧ n1 + (nmb v).length ≤ n + 6 ∧ OwB wr base 5 A1 n1 c1 l1 ∧ OwG base w wr A A1 ∧ base ≤ wr.heap.size ∧ Hid (l1 ++ nmb v = l ++ nmb m)) (fun _ t _ => (intOf t).toNat)
  case atStart => exact ⟨m, A, n, c, l, rfl, rfl, Nat.le_refl _, by omega, ho, OwG.refl _ _ _, hb, Lib.hid rfl⟩
  case round =>
    obtain ⟨v, A1, n1, c1, l1, rfl, rfl, hv, hn1, ho1, hg1, hb1, HE⟩ := hrel
    have hp := nmb_pos v
    by_cases h128 : 128 ≤ v
    · have HX := Lib.hid (ref128 v)
      have HG : Hid (nmb v = UInt8.ofNat (128 + v % 128) :: nmb (v / 128)) := Lib.hid (nmb_ge h128)
      have hl2 : n1 + 1 + (nmb (v / 128)).length ≤ n + 6 := by rw [nmb_ge h128, List.length_cons] at hn1; omega
      have z0 : (128 : Int) ≤ (v : Int) := by omega
      go_wp2_with (at_builtin; go_must (refine wpList_append_g _ rfl (.tmp 7) (.tmp 12) 33 rfl base 5 i0 Tryd.underlying33 hi0 hz0 hz1 hz2 A1 n1 c1 l1 rfl (ho1.alloc _) (some ⟨wr.heap.size, 0, none⟩) 1 1 [UInt8.ofNat (128 + v % 128)] rfl (RdB.lit1 HX.out) ?_ ?_ ?_; (focus omega); (focus (rw [size_alloc_]; omega)); intro A2 c2 w2 ho2 hg2))
      go_roundw
      case rel => exact ⟨v / 128, A2, n1 + 1, c2, _, rfl, by go_num, by omega, hl2, ho2, hg1.trans (hg2.alloc_left hb1), Nat.le_trans hb1 (by have := hg2.g.size; rw [size_alloc_] at this; omega), Lib.hid (by rw [head_byte v l1 h128]; exact HE.out)⟩
      case measure => simp [intOf]; omega
    · have hv2 : v < 128 := by omega
      have HX := Lib.hid (last_byte hv2)
      have HG : Hid (nmb v = [UInt8.ofNat v]) := Lib.hid (nmb_lt hv2)
      have z0 : (v : Int) < 128 := by omega
      go_wp2_with (at_builtin; go_must (refine wpList_append_g _ rfl (.tmp 16) (.tmp 19) 33 rfl base 5 i0 Tryd.underlying33 hi0 hz0 hz1 hz2 A1 n1 c1 l1 rfl (ho1.alloc _) (some ⟨wr.heap.size, 0, none⟩) 1 1 [UInt8.ofNat v] rfl (RdB.lit1 HX.out) ?_ ?_ ?_; (focus omega); (focus (rw [size_alloc_]; omega)); intro A2 c2 w2 ho2 hg2))
      go_ret
      exact ⟨A2, n1 + 1, c2, rfl, by rw [← HE.out, HG.out]; exact ho2, hg1.trans (hg2.alloc_left hb1)⟩
end Go.Proofs.YtbeijpajodgpeaaDoor
/- A string put behind own bytes; putText, putTitle, text, name. -/
namespace Go.Proofs.YtbeijpajodgpeaaDoor
open Go.RowKit
set_option linter.unusedSimpArgs false
set_option linter.unusedVariables false

theorem bs_str (l : List UInt8) (s : ByteArray) : bs l ++ Lib.strCells s = bs (l ++ s.data.toList) := by simp [bs, Lib.strCells]
section
variable {P : Program} (w : World)
theorem run_append_s (base : Nat) (t u ty e : TypeId) (i : TypeInfo) (ht : P.underlying t = some (.slice e)) (hu : P.underlying u = some .string) (hi : P.info? e = some i) (hz : i.zero = some (.int .u8 0))
    (hsize : i.size = 1) (hby : i.bytes = 1) (A : Option Addr) (n c : Nat) (l : List UInt8) (ho : OwB w base e A n c l) (s : ByteArray)
    (hbytes : n + s.size ≤ 140737488355328) (hbase : base ≤ w.heap.size) :
    ∃ A' c' w', (Builtin.append_ #[t, u] ty #[.slice A n c, .string s]).run P w = .ok (.slice A' (n + s.size) c') w' ∧ OwB w' base e A' (n + s.size) c' (l ++ s.data.toList) ∧ OwG base w w' A A' := by
  have h63 : n + s.size ≤ maxLen := Nat.le_trans hbytes pow47
  obtain ⟨v', w', hr, h2, h3, h4⟩ := Lib.run_append_own_string (P := P) w base t u ty e i ht hu hi hz hsize hby (.slice A n c) n (bs l) ho.own s h63 hbytes hbase
  rw [bs_str] at h2
  obtain ⟨A', c', rfl, h5⟩ := OwB.of_own h2
  rw [ownBlock_slice] at h3
  refine ⟨A', c', w', hr, h5, ⟨h3, ?_, ?_⟩⟩
  · have hxl : (bs l).length = n := by have := ho.own.1; omega
    rcases ho.own.2 with ⟨e1, e2⟩ | ⟨g, cap, cur, e1, hb, hg, hnc, hcm, hcs, htake⟩
    · injection e1 with e1 e1n e1c
      subst e1 e1n e1c
      by_cases hs0 : s.size = 0
      · have := h4.2 ⟨rfl, hs0⟩
        injection this with e3
        rw [e3]
        exact .inl rfl
      · have hr2 := run_append_nil_string (P := P) w t u ty e i (.int .u8 0) ht hu hi hz s (by omega) (by simp only [maxLen] at h63; omega) (by rw [hby]; omega)
        rw [hr2] at hr
        injection hr with e3 _
        injection e3 with e3
        rw [← e3]
        exact .inr ⟨w.heap.size, rfl, Nat.le_refl _⟩
    · injection e1 with e1 e1n e1c
      subst e1
      subst e1c
      by_cases hroom : n + s.size ≤ c
      · have hr2 := Lib.run_append_room_string (P := P) w t u ty e i ht hu hi hsize g n c cur hg s hroom (by have := hcs; omega)
        rw [hr2] at hr
        injection hr with e3 _
        injection e3 with e3
        rw [← e3]
        exact .inl rfl
      · have holds : ∀ j u, (bs l)[j]? = some u → w.cell? ((⟨g, 0, none⟩ : Addr).add j) = some u := ho.own.cells (g := g) rfl
        have hr2 := Lib.run_append_grow_string (P := P) w t u ty e i (.int .u8 0) ht hu hi hz ⟨g, 0, none⟩ n c (bs l) (by rw [hsize, Nat.mul_one]; exact hxl) holds s (by omega) (by simp only [maxLen] at h63; omega) (by rw [hby]; exact growslice_fits (by omega) (by omega))
        rw [hr2] at hr
        injection hr with e3 _
        injection e3 with e3
        rw [← e3]
        exact .inr ⟨w.heap.size, rfl, Nat.le_refl _⟩
  · refine (Below.refl _ _).grown h3 hbase (fun k hk => ?_)
    rw [← ownBlock_slice A n c] at hk
    exact (ho.own.lt k hk).1
theorem wpList_append_s {ops : Array Oper} {rest : List Oper} {o : Oper} {a : Act} {Q : Exit → Act → World → Prop} (hgd : o.guard = none) (sl x : Operand) (t u : TypeId)
    (ho : o.op = .call { callee := .builtin .append, args := #[sl, x], argTypes := #[t, u] })
    (base : Nat) (e : TypeId) (i : TypeInfo) (ht : P.underlying t = some (.slice e)) (hu : P.underlying u = some .string) (hi : P.info? e = some i) (hz : i.zero = some (.int .u8 0))
    (hsize : i.size = 1) (hby : i.bytes = 1) (A : Option Addr) (n c : Nat) (l : List UInt8) (hs : a.eval sl = .slice A n c) (hown : OwB w base e A n c l) (s : ByteArray) (hx : a.eval x = .string s)
    (hbytes : n + s.size ≤ 140737488355328) (hbase : base ≤ w.heap.size)
    (h : ∀ A' c' w', OwB w' base e A' (n + s.size) c' (l ++ s.data.toList) → OwG base w w' A A' → wpList P ops Q rest (a.put o.dst (.slice A' (n + s.size) c')) w') : wpList P ops Q (o :: rest) a w := by
  refine wpList_plain hgd fun K hK => ?_
  obtain ⟨A', c', w', hr, h2, h3⟩ := run_append_s (P := P) w base t u o.type e i ht hu hi hz hsize hby A n c l hown s hbytes hbase
  unfold Oper.wp execOp
  simp only [ho, resolve, invoke, builtin, Sem.run_bind, Sem.run_pure, Result.andThen_ok, List.map_toArray, List.map_cons, List.map_nil, hs, hx, hr]
  exact hK _ _ (h A' c' w' h2 h3)
end
theorem RPut.mono {base : Nat} {w w0 : World} {A A0 : Option Addr} {l l' : List UInt8} {e : Ending} {w' : World} (h : RPut base w A l e w') (hg : OwG base w0 w A0 A) (hl : l = l') : RPut base w0 A0 l' e w' := by
  obtain ⟨A', n', c', e1, h1, h2⟩ := h
  subst hl
  exact ⟨A', n', c', e1, h1, hg.trans h2⟩

set_option maxRecDepth 100000 in
set_option maxHeartbeats 4000000 in
theorem puttext_any (A : Option Addr) (n c : Nat) (l : List UInt8) (base : Nat) (s : ByteArray) (w : World) (ho : OwB w base 5 A n c l) (hb : base ≤ w.heap.size) (hn : n ≤ 68719476736) (hs : s.size ≤ 68719476736) :
    Calls Tryd.prog 45 #[.slice A n c, .string s] w (RPut base w A (l ++ txt s)) := by
  obtain ⟨i0, hi0, hz0, hz1, hz2⟩ := u8_parts
  have HP := Lib.hid (putnum_any A n c l base s.size w ho hb (by omega) (by omega))
  have hlm := nmb_len 5 s.size (by omega)
  have hnl := Lib.hid ho.len
  clear ho
  go_enter Tryd.func45, Tryd.ntmps45
  go_wp2_with fail
  go_at_call 27
  refine HP.out.mono ?_
  rintro e w1 ⟨A1, n1, c1, rfl, ho1, hg1⟩
  have hn1 : n1 ≤ n + 6 := by have h1 := ho1.len; have h2 := hnl.out; rw [List.length_append] at h1; omega
  have hz := hg1.g.size
  clear hnl HP
  have HT : Hid (l ++ nmb s.size ++ s.data.toList = l ++ txt s) := Lib.hid (by unfold txt; rw [List.append_assoc])
  go_wp2_with (at_builtin; go_must (refine wpList_append_s _ rfl (.tmp 8) (.tmp 9) 33 9 rfl base 5 i0 Tryd.underlying33 Tryd.underlying9 hi0 hz0 hz1 hz2 A1 n1 c1 (l ++ nmb s.size) rfl ho1 s rfl ?_ ?_ ?_; (focus omega); (focus omega); intro A2 c2 w2 ho2 hg2))
  go_ret
  exact ⟨A2, n1 + s.size, c2, rfl, by rw [← HT.out]; exact ho2, hg1.trans hg2⟩
set_option maxRecDepth 100000 in
set_option maxHeartbeats 4000000 in
theorem rtext_any (A : Option Addr) (n c : Nat) (l : List UInt8) (base : Nat) (s : ByteArray) (w : World) (ho : OwB w base 5 A n c l) (hb : base ≤ w.heap.size) (hn : n ≤ 68719476736) (hs : s.size ≤ 68719476736) :
    Calls Tryd.prog 72 #[.slice A n c, .string s] w (RPut base w A (l ++ txt s)) := by
  obtain ⟨i0, hi0, hz0, hz1, hz2⟩ := u8_parts
  have HP := Lib.hid (rnum_any A n c l base s.size w ho hb (by omega) (by omega))
  have hlm := nmb_len 5 s.size (by omega)
  have hnl := Lib.hid ho.len
  clear ho
  go_enter Tryd.func72, Tryd.ntmps72
  go_wp2_with fail
  go_at_call 57
  refine HP.out.mono ?_
  rintro e w1 ⟨A1, n1, c1, rfl, ho1, hg1⟩
  have hn1 : n1 ≤ n + 6 := by have h1 := ho1.len; have h2 := hnl.out; rw [List.length_append] at h1; omega
  have hz := hg1.g.size
  clear hnl HP
  have HT : Hid (l ++ nmb s.size ++ s.data.toList = l ++ txt s) := Lib.hid (by unfold txt; rw [List.append_assoc])
  go_wp2_with (at_builtin; go_must (refine wpList_append_s _ rfl (.tmp 8) (.tmp 9) 33 9 rfl base 5 i0 Tryd.underlying33 Tryd.underlying9 hi0 hz0 hz1 hz2 A1 n1 c1 (l ++ nmb s.size) rfl ho1 s rfl ?_ ?_ ?_; (focus omega); (focus omega); intro A2 c2 w2 ho2 hg2))
  go_ret
  exact ⟨A2, n1 + s.size, c2, rfl, by rw [← HT.out]; exact ho2, hg1.trans hg2⟩
end Go.Proofs.YtbeijpajodgpeaaDoor
/- The walks of putTitle and trcref26.name. Printed by gen_c12.py -/
namespace Go.Proofs.YtbeijpajodgpeaaDoor
open Go.RowKit
set_option linter.unusedSimpArgs false
set_option linter.unusedVariables false

theorem OwG.drewX {base : Nat} {w w' : World} {A A' : Option Addr} (h : OwG base w.drew w' A A') : OwG base w w' A A' := h.drew_left
set_option maxRecDepth 100000 in
set_option maxHeartbeats 4000000 in
theorem puttitle_any (A : Option Addr) (n c : Nat) (l : List UInt8) (base : Nat) (x : Int) (s : ByteArray) (w : World) (ho : OwB w base 5 A n c l) (hb : base ≤ w.heap.size) (hn : n ≤ 34359738368) (hs : s.size ≤ 34359738368) (hx0 : 0 ≤ x) (hx1 : x < 1099511627776) :
    Calls Tryd.prog 46 #[.slice A n c, .agg #[.int .i64 x, .string s]] w (RPut base w A (l ++ ttl x s)) := by
  obtain ⟨m, rfl⟩ := Int.eq_ofNat_of_zero_le hx0
  have kb : (w.alloc (.cells #[.int .i64 m, .string s] 28)).heap[w.heap.size]? = some (.cells #[.int .i64 m, .string s] 28 (0, 0)) := heap_new rfl
  have ho0 : OwB (w.alloc (.cells #[.int .i64 m, .string s] 28)) base 5 A n c l := ho.alloc _
  have hb0 : base ≤ (w.alloc (.cells #[.int .i64 m, .string s] 28)).heap.size := by rw [size_alloc_]; omega
  have hal : Hid (∀ (w' : World) (A' : Option Addr), OwG base (w.alloc (.cells #[.int .i64 m, .string s] 28)) w' A A' → OwG base w w' A A') := Lib.hid fun w' A' h => h.alloc_left hb
  have hne : A.map (·.block) ≠ some w.heap.size := fun e => by
    rcases ho.own.2 with ⟨e1, e2⟩ | ⟨g, cap, cur, e1, hbg, hg, _⟩
    · injection e1 with e1; subst e1; simp at e
    · injection e1 with e1
      subst e1
      simp at e
      have := Blk.lt hg
      omega
  clear ho
  have HNL := Lib.hid ho0.len
  have hlm := nmb_len 5 m (by omega)
  go_enter Tryd.func46, Tryd.ntmps46
  go_wp2_with fail
  generalize w.alloc (.cells #[.int .i64 m, .string s] 28) = w0 at *
  have kc := Blk.cell kb
  go_region_held3 (fun W => W.cell? ⟨w.heap.size, 0, none⟩ = some (.int .i64 m) ∧ W.cell? ⟨w.heap.size, 1, none⟩ = some (.string s)) (first | (simp [kc]; done) | assumption)
    (first
      | (go_at_call 27; ((with_reducible refine (putnum_any A n c l base m _ ho0.drew ?_ ?_ ?_).mono ?_); (focus exact hb0); (focus omega); (focus omega); rintro e w1 ⟨A1, n1, c1, rfl, ho1, hg1⟩; (have hg1' := hg1.drew_left); (have kb1 := hg1'.heap hne kb); (have kc1 := Blk.cell kb1); (have hz1 := hg1'.g.size); (have hn1 : n1 ≤ n + 6 := by have h1 := ho1.len; have h2 := HNL.out; rw [List.length_append] at h1; omega); (have hS1 : w1.cell? ⟨w.heap.size, 0, none⟩ = some (.int .i64 m) ∧ w1.cell? ⟨w.heap.size, 1, none⟩ = some (.string s) := ⟨kc1 0, kc1 1⟩)))
      | (go_at_call 45; ((with_reducible refine (puttext_any A1 n1 c1 (l ++ nmb m) base s _ ho1 ?_ ?_ ?_).mono ?_); (focus omega); (focus omega); (focus omega); rintro e w2 ⟨A2, n2, c2, rfl, ho2, hg2⟩; (have hS2 : w2.cell? ⟨w.heap.size, 0, none⟩ = some (.int .i64 m) ∧ w2.cell? ⟨w.heap.size, 1, none⟩ = some (.string s) := by have hne1 : A1.map (·.block) ≠ some w.heap.size := (by rcases hg1'.n with e | ⟨k, e, hk⟩; (rw [e]; exact hne); (intro e2; rw [e2] at e; injection e with e; have := Blk.lt kb; omega)); have kb2 := hg2.heap hne1 kb1; exact ⟨Blk.cell kb2 0, Blk.cell kb2 1⟩))))
  all_goals
    go_wp2
    go_ret
    exact ⟨A2, n2, c2, by rfl, by unfold ttl; rw [Int.toNat_natCast, ← List.append_assoc]; exact ho2, hal.out _ _ (hg1'.trans hg2)⟩
set_option maxRecDepth 100000 in
set_option maxHeartbeats 4000000 in
theorem rname_any (A : Option Addr) (n c : Nat) (l : List UInt8) (base : Nat) (x : Int) (s : ByteArray) (w : World) (ho : OwB w base 5 A n c l) (hb : base ≤ w.heap.size) (hn : n ≤ 34359738368) (hs : s.size ≤ 34359738368) (hx0 : 0 ≤ x) (hx1 : x < 1099511627776) :
    Calls Tryd.prog 73 #[.slice A n c, .agg #[.int .i64 x, .string s]] w (RPut base w A (l ++ ttl x s)) := by
  obtain ⟨m, rfl⟩ := Int.eq_ofNat_of_zero_le hx0
  have kb : (w.alloc (.cells #[.int .i64 m, .string s] 28)).heap[w.heap.size]? = some (.cells #[.int .i64 m, .string s] 28 (0, 0)) := heap_new rfl
  have ho0 : OwB (w.alloc (.cells #[.int .i64 m, .string s] 28)) base 5 A n c l := ho.alloc _
  have hb0 : base ≤ (w.alloc (.cells #[.int .i64 m, .string s] 28)).heap.size := by rw [size_alloc_]; omega
  have hal : Hid (∀ (w' : World) (A' : Option Addr), OwG base (w.alloc (.cells #[.int .i64 m, .string s] 28)) w' A A' → OwG base w w' A A') := Lib.hid fun w' A' h => h.alloc_left hb
  have hne : A.map (·.block) ≠ some w.heap.size := fun e => by
    rcases ho.own.2 with ⟨e1, e2⟩ | ⟨g, cap, cur, e1, hbg, hg, _⟩
    · injection e1 with e1; subst e1; simp at e
    · injection e1 with e1
      subst e1
      simp at e
      have := Blk.lt hg
      omega
  clear ho
  have HNL := Lib.hid ho0.len
  have hlm := nmb_len 5 m (by omega)
  go_enter Tryd.func73, Tryd.ntmps73
  go_wp2_with fail
  generalize w.alloc (.cells #[.int .i64 m, .string s] 28) = w0 at *
  have kc := Blk.cell kb
  go_region_held3 (fun W => W.cell? ⟨w.heap.size, 0, none⟩ = some (.int .i64 m) ∧ W.cell? ⟨w.heap.size, 1, none⟩ = some (.string s)) (first | (simp [kc]; done) | assumption)
    (first
      | (go_at_call 57; ((with_reducible refine (rnum_any A n c l base m _ ho0.drew ?_ ?_ ?_).mono ?_); (focus exact hb0); (focus omega); (focus omega); rintro e w1 ⟨A1, n1, c1, rfl, ho1, hg1⟩; (have hg1' := hg1.drew_left); (have kb1 := hg1'.heap hne kb); (have kc1 := Blk.cell kb1); (have hz1 := hg1'.g.size); (have hn1 : n1 ≤ n + 6 := by have h1 := ho1.len; have h2 := HNL.out; rw [List.length_append] at h1; omega); (have hS1 : w1.cell? ⟨w.heap.size, 0, none⟩ = some (.int .i64 m) ∧ w1.cell? ⟨w.heap.size, 1, none⟩ = some (.string s) := ⟨kc1 0, kc1 1⟩)))
      | (go_at_call 72; ((with_reducible refine (rtext_any A1 n1 c1 (l ++ nmb m) base s _ ho1 ?_ ?_ ?_).mono ?_); (focus omega); (focus omega); (focus omega); rintro e w2 ⟨A2, n2, c2, rfl, ho2, hg2⟩; (have hS2 : w2.cell? ⟨w.heap.size, 0, none⟩ = some (.int .i64 m) ∧ w2.cell? ⟨w.heap.size, 1, none⟩ = some (.string s) := by have hne1 : A1.map (·.block) ≠ some w.heap.size := (by rcases hg1'.n with e | ⟨k, e, hk⟩; (rw [e]; exact hne); (intro e2; rw [e2] at e; injection e with e; have := Blk.lt kb; omega)); have kb2 := hg2.heap hne1 kb1; exact ⟨Blk.cell kb2 0, Blk.cell kb2 1⟩))))
  all_goals
    go_wp2
    go_ret
    exact ⟨A2, n2, c2, by rfl, by unfold ttl; rw [Int.toNat_natCast, ← List.append_assoc]; exact ho2, hal.out _ _ (hg1'.trans hg2)⟩
end Go.Proofs.YtbeijpajodgpeaaDoor
/- What is put behind own bytes, with a bound. Printed by gen_c13.py -/
namespace Go.Proofs.YtbeijpajodgpeaaDoor
open Go.RowKit
set_option linter.unusedSimpArgs false
set_option linter.unusedVariables false

/-- what was put behind the bytes, and how long it is at most -/
def RPB (base : Nat) (w : World) (A : Option Addr) (l : List UInt8) (N : Nat) (e : Ending) (w' : World) : Prop := ∃ A' n' c', e = .returned (.slice A' n' c') ∧ OwB w' base 5 A' n' c' l ∧ OwG base w w' A A' ∧ n' ≤ N
theorem RPut.b {base : Nat} {w : World} {A : Option Addr} {l : List UInt8} {N : Nat} {e : Ending} {w' : World} (h : RPut base w A l e w') (hN : l.length ≤ N) : RPB base w A l N e w' := by
  obtain ⟨A', n', c', e1, h1, h2⟩ := h
  exact ⟨A', n', c', e1, h1, h2, by rw [h1.len]; exact hN⟩
theorem txt_len {s : ByteArray} (h : s.size < 1099511627776) : (txt s).length ≤ s.size + 6 := by
  have := nmb_len 5 s.size (by omega)
  unfold txt
  rw [List.length_append]
  have e : s.data.toList.length = s.size := by simp
  omega
/-- what is known of a valid change -/
structure EncF (c : Cg) : Prop where
  us : c.us.size ≤ 30
  nt : c.nt.size ≤ 200
  tx : c.tx.size ≤ 8192
  t : fT c.kd = true → 0 ≤ c.ts ∧ c.ts < 6 ∧ c.tn.size ≤ 100
  o : fO c.kd = true → 0 ≤ c.os ∧ c.os < 6 ∧ c.on.size ≤ 100
  n : fK c.kd = true → 0 ≤ c.n ∧ c.n ≤ 1073741824
  h : fH c.kd = true → hst c.hs = true ∧ c.hs.any bigR = false
theorem EncF.of {c : Cg} (h : cv c = 0) : EncF c := by
  obtain ⟨hv, hf, hr, hb, hhb⟩ := cv_ok h
  simp only [bigC, Bool.or_eq_false_iff, decide_eq_false_iff_not] at hb
  simp only [rng, Bool.and_eq_true, Bool.or_eq_true, Bool.not_eq_true', decide_eq_true_eq] at hr
  obtain ⟨⟨⟨⟨⟨r1, r2⟩, r3⟩, r4⟩, r5⟩, r6⟩ := hr
  refine ⟨isUs_size r3, by omega, by omega, fun e => ?_, fun e => ?_, fun e => ?_, fun e => ?_⟩
  · rw [e] at r1; have := tv_range (by simpa using r1); omega
  · rw [e] at r2; have := tv_range (by simpa using r2); omega
  · rw [e] at r5
    have r5' : loB c.kd ≤ c.n ∧ c.n ≤ hiB c.kd := by simpa using r5
    have : 0 ≤ loB c.kd ∧ hiB c.kd ≤ 1073741824 := by unfold loB hiB; constructor <;> (repeat' split) <;> omega
    omega
  · rw [e] at r6; exact ⟨by simpa using r6, hhb⟩
theorem encH_take {L : List Rv} {k : Nat} (h : k < L.length) : encH (L.take (k + 1)) = encH (L.take k) ++ encR (L.getD k rv0) := by
  have e : L.take (k + 1) = L.take k ++ [L.getD k rv0] := by
    rw [List.take_add_one, List.getElem?_eq_getElem h]
    simp only [List.getD, List.getElem?_eq_getElem h, Option.getD_some, Option.toList_some]
  rw [e]
  unfold encH
  rw [List.flatMap_append, List.flatMap_singleton]
theorem OwG.al {base : Nat} {w w1 : World} {A A1 : Option Addr} (h : OwG base w w1 A A1) (hb : base ≤ w.heap.size) (o : Obj) : OwG base w (w1.alloc o) A A1 := h.below ((Below.refl _ _).alloc (Nat.le_refl _) o) hb
theorem num_b (A : Option Addr) (n c : Nat) (l : List UInt8) (base N : Nat) (z : Int) (w : World) (ho : OwB w base 5 A n c l) (hb : base ≤ w.heap.size) (hn : n ≤ N) (hN : N ≤ 1073741824) (h0 : 0 ≤ z) (h1 : z ≤ 1073741824) :
    Calls Tryd.prog 27 #[.slice A n c, .int .i64 z] w (RPB base w A (l ++ nmb z.toNat) (N + 6)) := by
  obtain ⟨m, rfl⟩ := Int.eq_ofNat_of_zero_le h0
  have hl := ho.len
  exact (putnum_any A n c l base m w ho hb (by omega) (by omega)).mono fun e w' h => h.b (by have := nmb_len 5 m (by omega); rw [List.length_append]; omega)
theorem text_b (A : Option Addr) (n c : Nat) (l : List UInt8) (base N S : Nat) (s : ByteArray) (w : World) (ho : OwB w base 5 A n c l) (hb : base ≤ w.heap.size) (hn : n ≤ N) (hN : N ≤ 1073741824) (hs : s.size ≤ S) (hS : S ≤ 1073741824) :
    Calls Tryd.prog 45 #[.slice A n c, .string s] w (RPB base w A (l ++ txt s) (N + S + 6)) := by
  have hl := ho.len
  exact (puttext_any A n c l base s w ho hb (by omega) (by omega)).mono fun e w' h => h.b (by have := txt_len (s := s) (by omega); rw [List.length_append]; omega)
theorem title_b (A : Option Addr) (n c : Nat) (l : List UInt8) (base N : Nat) (x : Int) (s : ByteArray) (w : World) (ho : OwB w base 5 A n c l) (hb : base ≤ w.heap.size) (hn : n ≤ N) (hN : N ≤ 1073741824) (h0 : 0 ≤ x) (h1 : x < 6) (hs : s.size ≤ 100) :
    Calls Tryd.prog 46 #[.slice A n c, .agg #[.int .i64 x, .string s]] w (RPB base w A (l ++ ttl x s) (N + 120)) := by
  have hl := ho.len
  exact (puttitle_any A n c l base x s w ho hb (by omega) (by omega) h0 (by omega)).mono fun e w' h => h.b (by
    have := txt_len (s := s) (by omega)
    have := nmb_len 0 x.toNat (by omega)
    unfold ttl
    rw [List.length_append, List.length_append]
    omega)
theorem rnum_b (A : Option Addr) (n c : Nat) (l : List UInt8) (base N : Nat) (z : Int) (w : World) (ho : OwB w base 5 A n c l) (hb : base ≤ w.heap.size) (hn : n ≤ N) (hN : N ≤ 1073741824) (h0 : 0 ≤ z) (h1 : z ≤ 1073741824) :
    Calls Tryd.prog 57 #[.slice A n c, .int .i64 z] w (RPB base w A (l ++ nmb z.toNat) (N + 6)) := by
  obtain ⟨m, rfl⟩ := Int.eq_ofNat_of_zero_le h0
  have hl := ho.len
  exact (rnum_any A n c l base m w ho hb (by omega) (by omega)).mono fun e w' h => h.b (by have := nmb_len 5 m (by omega); rw [List.length_append]; omega)
theorem rtext_b (A : Option Addr) (n c : Nat) (l : List UInt8) (base N S : Nat) (s : ByteArray) (w : World) (ho : OwB w base 5 A n c l) (hb : base ≤ w.heap.size) (hn : n ≤ N) (hN : N ≤ 1073741824) (hs : s.size ≤ S) (hS : S ≤ 1073741824) :
    Calls Tryd.prog 72 #[.slice A n c, .string s] w (RPB base w A (l ++ txt s) (N + S + 6)) := by
  have hl := ho.len
  exact (rtext_any A n c l base s w ho hb (by omega) (by omega)).mono fun e w' h => h.b (by have := txt_len (s := s) (by omega); rw [List.length_append]; omega)
theorem rtitle_b (A : Option Addr) (n c : Nat) (l : List UInt8) (base N : Nat) (x : Int) (s : ByteArray) (w : World) (ho : OwB w base 5 A n c l) (hb : base ≤ w.heap.size) (hn : n ≤ N) (hN : N ≤ 1073741824) (h0 : 0 ≤ x) (h1 : x < 6) (hs : s.size ≤ 100) :
    Calls Tryd.prog 73 #[.slice A n c, .agg #[.int .i64 x, .string s]] w (RPB base w A (l ++ ttl x s) (N + 120)) := by
  have hl := ho.len
  exact (rname_any A n c l base x s w ho hb (by omega) (by omega) h0 (by omega)).mono fun e w' h => h.b (by
    have := txt_len (s := s) (by omega)
    have := nmb_len 0 x.toNat (by omega)
    unfold ttl
    rw [List.length_append, List.length_append]
    omega)
end Go.Proofs.YtbeijpajodgpeaaDoor
