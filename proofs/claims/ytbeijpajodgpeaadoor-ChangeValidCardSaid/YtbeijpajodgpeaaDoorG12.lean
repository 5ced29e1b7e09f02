/- The walk of altered. Printed by gen_g12.py -/
import Derived.Test.YtbeijpajodgpeaaDoorGV
namespace Go.Proofs.YtbeijpajodgpeaaDoor
open Go.RowKit
set_option linter.unusedSimpArgs false
set_option linter.unusedVariables false

theorem below_ten {B : Nat} {w y : World} {q : Nat} (h : Below B w y) (hq : B ≤ q) (v0 v1 v2 v3 v4 v5 v6 v7 v8 v9 : Value) : Below B w ((((((((((y.setCell ⟨q, 0, none⟩ v0).setCell ⟨q, 1, none⟩ v1).setCell ⟨q, 2, none⟩ v2).setCell ⟨q, 3, none⟩ v3).setCell ⟨q, 4, none⟩ v4).setCell ⟨q, 5, none⟩ v5).setCell ⟨q, 6, none⟩ v6).setCell ⟨q, 7, none⟩ v7).setCell ⟨q, 8, none⟩ v8).setCell ⟨q, 9, none⟩ v9) := ((((((((((h.setCell hq v0).setCell hq v1).setCell hq v2).setCell hq v3).setCell hq v4).setCell hq v5).setCell hq v6).setCell hq v7).setCell hq v8).setCell hq v9)
theorem OwV.ten {y : World} {base e n c q : Nat} {A : Option Addr} {L : List Rv} (h : OwR RV 6 y base e A n c L) (hq : A.map (·.block) ≠ some q) (v0 v1 v2 v3 v4 v5 v6 v7 v8 v9 : Value) : OwR RV 6 ((((((((((y.setCell ⟨q, 0, none⟩ v0).setCell ⟨q, 1, none⟩ v1).setCell ⟨q, 2, none⟩ v2).setCell ⟨q, 3, none⟩ v3).setCell ⟨q, 4, none⟩ v4).setCell ⟨q, 5, none⟩ v5).setCell ⟨q, 6, none⟩ v6).setCell ⟨q, 7, none⟩ v7).setCell ⟨q, 8, none⟩ v8).setCell ⟨q, 9, none⟩ v9) base e A n c L := (OwV.st (i := 9) (u := v9) (OwV.st (i := 8) (u := v8) (OwV.st (i := 7) (u := v7) (OwV.st (i := 6) (u := v6) (OwV.st (i := 5) (u := v5) (OwV.st (i := 4) (u := v4) (OwV.st (i := 3) (u := v3) (OwV.st (i := 2) (u := v2) (OwV.st (i := 1) (u := v1) (OwV.st (i := 0) (u := v0) h hq) hq) hq) hq) hq) hq) hq) hq) hq) hq)
theorem rvwf_getD {L : List Rv} (h : ∀ r ∈ L, RvWf r) {j : Nat} (hj : j < L.length) : RvWf (L.getD j rv0) := by
  simp only [List.getD, List.getElem?_eq_getElem hj, Option.getD_some]
  exact h _ (List.getElem_mem hj)
theorem below_drw {B : Nat} {w y : World} (h : Below B w y) : Below B w y.drew := below_drewN h 1
theorem drew_heap_ (w : World) : w.drew.heap = w.heap := rfl
theorem six_all {w0 y : World} {a q g base e n c j : Nat} {L : List Rv} {X Y : Obj} (ho : OwR RV 6 y base e (some ⟨g, 0, none⟩) n c L) (hj : j < L.length) (ka : y.heap[a]? = some X) (kq : y.heap[q]? = some Y) (hb : Below a w0 y) (hga : a ≠ g) (hgq : q ≠ g) (hag : a ≤ g) (x0 : Int) (x1 x2 x3 : ByteArray) (x4 x5 : Int) : OwR RV 6 ((((((y.setCell ⟨g, j * 6, none⟩ (.int .i64 x0)).setCell ⟨g, j * 6 + 1, none⟩ (.string x1)).setCell ⟨g, j * 6 + 2, none⟩ (.string x2)).setCell ⟨g, j * 6 + 3, none⟩ (.string x3)).setCell ⟨g, j * 6 + 4, none⟩ (.int .i64 x4)).setCell ⟨g, j * 6 + 5, none⟩ (.int .i64 x5)).drew base e (some ⟨g, 0, none⟩) n c (L.set j ⟨x0, x1, x2, x3, x4, x5⟩) ∧ ((((((y.setCell ⟨g, j * 6, none⟩ (.int .i64 x0)).setCell ⟨g, j * 6 + 1, none⟩ (.string x1)).setCell ⟨g, j * 6 + 2, none⟩ (.string x2)).setCell ⟨g, j * 6 + 3, none⟩ (.string x3)).setCell ⟨g, j * 6 + 4, none⟩ (.int .i64 x4)).setCell ⟨g, j * 6 + 5, none⟩ (.int .i64 x5)).drew.heap[a]? = some X ∧ ((((((y.setCell ⟨g, j * 6, none⟩ (.int .i64 x0)).setCell ⟨g, j * 6 + 1, none⟩ (.string x1)).setCell ⟨g, j * 6 + 2, none⟩ (.string x2)).setCell ⟨g, j * 6 + 3, none⟩ (.string x3)).setCell ⟨g, j * 6 + 4, none⟩ (.int .i64 x4)).setCell ⟨g, j * 6 + 5, none⟩ (.int .i64 x5)).drew.heap[q]? = some Y ∧ Below a w0 ((((((y.setCell ⟨g, j * 6, none⟩ (.int .i64 x0)).setCell ⟨g, j * 6 + 1, none⟩ (.string x1)).setCell ⟨g, j * 6 + 2, none⟩ (.string x2)).setCell ⟨g, j * 6 + 3, none⟩ (.string x3)).setCell ⟨g, j * 6 + 4, none⟩ (.int .i64 x4)).setCell ⟨g, j * 6 + 5, none⟩ (.int .i64 x5)).drew := by
  have h1 := OwW.stored6 ho j hj ⟨x0, x1, x2, x3, x4, x5⟩
  simp only [] at h1
  refine ⟨h1.call RV.stay (below_drw (Below.refl _ _)), ?_, ?_, below_drw ?_⟩
  · rw [drew_heap_, heap_set_far _ _ _ _ _ hga, heap_set_far _ _ _ _ _ hga, heap_set_far _ _ _ _ _ hga, heap_set_far _ _ _ _ _ hga, heap_set_far _ _ _ _ _ hga, heap_set_far _ _ _ _ _ hga]
    exact ka
  · rw [drew_heap_, heap_set_far _ _ _ _ _ hgq, heap_set_far _ _ _ _ _ hgq, heap_set_far _ _ _ _ _ hgq, heap_set_far _ _ _ _ _ hgq, heap_set_far _ _ _ _ _ hgq, heap_set_far _ _ _ _ _ hgq]
    exact kq
  · exact (((((hb.setCell hag _).setCell hag _).setCell hag _).setCell hag _).setCell hag _).setCell hag _
def zs6 (N : Nat) : ByteArray := ⟨(List.replicate N 0).toArray⟩
theorem zs6_size (N : Nat) : (zs6 N).size = N := by simp [zs6, ByteArray.size]
theorem zs6_conv (N : Nat) (hN : N ≤ 1000000) : ∀ W : World, (convert 33 9 (.slice (some ⟨W.heap.size, 0, none⟩) N N)).run Tryd.prog (W.alloc (.cells (madeCells #[.int .u8 0] N) 5)).drew = .ok (.string (zs6 N)) (W.alloc (.cells (madeCells #[.int .u8 0] N) 5)).drew :=
  fun W => conv_rd (RdB.below (OwB.zeros (w := W) (base := W.heap.size) (e := 5) (Nat.le_refl _) (by unfold maxLen; omega)).rd (below_drw (Below.refl _ _)))
def alU (k : Nat) : ByteArray := ([⟨#[]⟩, ⟨#[65, 110, 110]⟩, ⟨#[97, 110, 110]⟩, ⟨#[48]⟩, ⟨#[97, 45, 98, 95, 48]⟩] : List ByteArray).getD k ⟨#[]⟩
def alT (k : Nat) : Int := ([0, 0, 6, 0, 3] : List Int).getD k 0
def alN (k : Nat) : ByteArray := ([⟨#[]⟩, ⟨#[97]⟩, ⟨#[65]⟩, ⟨#[65]⟩, ⟨#[65, 47, 47, 66]⟩] : List ByteArray).getD k ⟨#[]⟩
def alS (k : Nat) : Int := ([0, 0, 0, -1] : List Int).getD k 0
def alM (k : Nat) : ByteArray := ([⟨#[]⟩, ⟨#[65]⟩, ⟨#[124]⟩, ⟨#[65]⟩] : List ByteArray).getD k ⟨#[]⟩
def alI (k : Nat) : Int := ([-1, 0, 1, 2, 40, 41, 1073741824, 52596001] : List Int).getD k 0
def alX (k : Nat) : ByteArray := ([⟨#[]⟩, ⟨#[120]⟩] : List ByteArray).getD k ⟨#[]⟩
def alO (k : Nat) : ByteArray := ([⟨#[120, 32, 121]⟩, ⟨#[98, 111, 98]⟩] : List ByteArray).getD k ⟨#[]⟩
def alP (s : ByteArray) (k : Nat) : ByteArray := ([⟨#[]⟩, ⟨#[110]⟩, s] : List ByteArray).getD k ⟨#[]⟩
def alH (hs : List Rv) (x : Int) : List Rv := if hs.length = 0 then hs else hs.set (x % (hs.length : Int)).toNat ⟨(hs.getD (x % (hs.length : Int)).toNat rv0).num, alO (IntKind.i64.wrap (x.tdiv (hs.length : Int)) % 2).toNat, (hs.getD (x % (hs.length : Int)).toNat rv0).nt, (hs.getD (x % (hs.length : Int)).toNat rv0).tx, IntKind.i64.wrap ((IntKind.i64.wrap (x.tdiv (hs.length : Int))).tdiv 2) % 5 - 1, (hs.getD (x % (hs.length : Int)).toNat rv0).sq⟩
theorem alH_nil {hs : List Rv} {n : Nat} (x : Int) (hn : n = hs.length) (h0 : n = 0) : alH hs x = hs := by
  unfold alH
  rw [if_pos (by omega)]
theorem alH_pos {hs : List Rv} {n : Nat} (x : Int) (hn : n = hs.length) (h0 : 0 < n) : alH hs x = hs.set (x % (n : Int)).toNat ⟨(hs.getD (x % (n : Int)).toNat rv0).num, alO (IntKind.i64.wrap (x.tdiv (n : Int)) % 2).toNat, (hs.getD (x % (n : Int)).toNat rv0).nt, (hs.getD (x % (n : Int)).toNat rv0).tx, IntKind.i64.wrap ((IntKind.i64.wrap (x.tdiv (n : Int))).tdiv 2) % 5 - 1, (hs.getD (x % (n : Int)).toNat rv0).sq⟩ := by
  unfold alH
  rw [if_neg (by omega), ← hn]
/-- the altered change -/
def alC (a : Cg) (k x : Int) : Cg := match k.toNat with
  | 0 => ⟨x % 13 - 1, a.us, a.nt, a.ts, a.tn, a.os, a.on, a.tx, a.n, a.hs⟩
  | 1 => ⟨a.kd, alU (x % 5).toNat, a.nt, a.ts, a.tn, a.os, a.on, a.tx, a.n, a.hs⟩
  | 2 => ⟨a.kd, a.us, a.nt, alT (x % 5).toNat, alN (x % 5).toNat, a.os, a.on, a.tx, a.n, a.hs⟩
  | 3 => ⟨a.kd, a.us, a.nt, a.ts, a.tn, alS (x % 4).toNat, alM (x % 4).toNat, a.tx, a.n, a.hs⟩
  | 4 => ⟨a.kd, a.us, a.nt, a.ts, a.tn, a.os, a.on, a.tx, alI (x % 8).toNat, a.hs⟩
  | 5 => ⟨a.kd, a.us, a.nt, a.ts, a.tn, a.os, a.on, a.tx ++ alX (x % 2).toNat, a.n, a.hs⟩
  | 6 => ⟨a.kd, a.us, alP (zs6 201) (x % 3).toNat, a.ts, a.tn, a.os, a.on, a.tx, a.n, a.hs⟩
  | 7 => ⟨a.kd, a.us, a.nt, a.ts, a.tn, a.os, a.on, a.tx, a.n, a.hs ++ [⟨(a.hs.length : Int) + x % 3, ⟨#[]⟩, ⟨#[]⟩, ⟨#[]⟩, IntKind.i64.wrap (x.tdiv 3) % 4 - 1, (IntKind.i64.wrap (x.tdiv 12) % 5) / 4⟩]⟩
  | _ => ⟨a.kd, a.us, a.nt, a.ts, a.tn, a.os, a.on, a.tx, a.n, alH a.hs x⟩
set_option maxRecDepth 100000 in
theorem alU_idx {k : Nat} (hk : k < 5) : ∀ W : World, (Instr.index 60 (.agg #[.string ⟨#[]⟩, .string ⟨#[65, 110, 110]⟩, .string ⟨#[97, 110, 110]⟩, .string ⟨#[48]⟩, .string ⟨#[97, 45, 98, 95, 48]⟩]) (.int .i64 (k : Int))).run Tryd.prog W = .ok (.string (alU k)) W := by
  intro W
  rcases k with _ | _ | _ | _ | _ | k <;> first | omega | kernel_rfl
set_option maxRecDepth 100000 in
theorem alT_idx {k : Nat} (hk : k < 5) : ∀ W : World, (Instr.index 61 (.agg #[.int .i64 0, .string ⟨#[]⟩, .int .i64 0, .string ⟨#[97]⟩, .int .i64 6, .string ⟨#[65]⟩, .int .i64 0, .string ⟨#[65]⟩, .int .i64 3, .string ⟨#[65, 47, 47, 66]⟩]) (.int .i64 (k : Int))).run Tryd.prog W = .ok (.agg #[.int .i64 (alT k), .string (alN k)]) W := by
  intro W
  rcases k with _ | _ | _ | _ | _ | k <;> first | omega | kernel_rfl
set_option maxRecDepth 100000 in
theorem alS_idx {k : Nat} (hk : k < 4) : ∀ W : World, (Instr.index 62 (.agg #[.int .i64 0, .string ⟨#[]⟩, .int .i64 0, .string ⟨#[65]⟩, .int .i64 0, .string ⟨#[124]⟩, .int .i64 (-1), .string ⟨#[65]⟩]) (.int .i64 (k : Int))).run Tryd.prog W = .ok (.agg #[.int .i64 (alS k), .string (alM k)]) W := by
  intro W
  rcases k with _ | _ | _ | _ | k <;> first | omega | kernel_rfl
set_option maxRecDepth 100000 in
theorem alI_idx {k : Nat} (hk : k < 8) : ∀ W : World, (Instr.index 63 (.agg #[.int .i64 (-1), .int .i64 0, .int .i64 1, .int .i64 2, .int .i64 40, .int .i64 41, .int .i64 1073741824, .int .i64 52596001]) (.int .i64 (k : Int))).run Tryd.prog W = .ok (.int .i64 (alI k)) W := by
  intro W
  rcases k with _ | _ | _ | _ | _ | _ | _ | _ | k <;> first | omega | kernel_rfl
set_option maxRecDepth 100000 in
theorem alX_idx {k : Nat} (hk : k < 2) : ∀ W : World, (Instr.index 64 (.agg #[.string ⟨#[]⟩, .string ⟨#[120]⟩]) (.int .i64 (k : Int))).run Tryd.prog W = .ok (.string (alX k)) W := by
  intro W
  rcases k with _ | _ | k <;> first | omega | kernel_rfl
set_option maxRecDepth 100000 in
theorem alO_idx {k : Nat} (hk : k < 2) : ∀ W : World, (Instr.index 64 (.agg #[.string ⟨#[120, 32, 121]⟩, .string ⟨#[98, 111, 98]⟩]) (.int .i64 (k : Int))).run Tryd.prog W = .ok (.string (alO k)) W := by
  intro W
  rcases k with _ | _ | k <;> first | omega | kernel_rfl
set_option maxRecDepth 100000 in
theorem alP_idx (s : ByteArray) {k : Nat} (hk : k < 3) : ∀ W : World, (Instr.index 65 (.agg #[.string ⟨#[]⟩, .string ⟨#[110]⟩, .string s]) (.int .i64 (k : Int))).run Tryd.prog W = .ok (.string (alP s k)) W := by
  intro W
  rcases k with _ | _ | _ | k <;> first | omega | kernel_rfl
theorem intD_le {L : List Int} (h : ∀ a ∈ L, -1 ≤ a ∧ a ≤ 1073741824) (k : Nat) : -1 ≤ L.getD k 0 ∧ L.getD k 0 ≤ 1073741824 := by
  rw [List.getD_eq_getElem?_getD]
  cases e : L[k]? with
  | none => simp
  | some s => exact h s (List.mem_of_getElem? e)
theorem alU_ok (k : Nat) : (alU k).size ≤ 10 := size_le (by decide) k
theorem alN_ok (k : Nat) : (alN k).size ≤ 10 := size_le (by decide) k
theorem alM_ok (k : Nat) : (alM k).size ≤ 10 := size_le (by decide) k
theorem alX_ok (k : Nat) : (alX k).size ≤ 1 := size_le (by decide) k
theorem alO_ok (k : Nat) : (alO k).size ≤ 3 := size_le (by decide) k
theorem alT_ok (k : Nat) : -1 ≤ alT k ∧ alT k ≤ 1073741824 := intD_le (by decide) k
theorem alS_ok (k : Nat) : -1 ≤ alS k ∧ alS k ≤ 1073741824 := intD_le (by decide) k
theorem alI_ok (k : Nat) : -1 ≤ alI k ∧ alI k ≤ 1073741824 := intD_le (by decide) k
theorem alP_ok {s : ByteArray} (hs : s.size ≤ 201) (k : Nat) : (alP s k).size ≤ 201 := size_le (by
  intro a ha
  simp only [List.mem_cons, List.not_mem_nil, or_false] at ha
  rcases ha with rfl | rfl | rfl
  · exact Nat.zero_le _
  · show 1 ≤ 201; omega
  · exact hs) k
/-- what altered answers: the change C, within its types -/
def RAlt (C : Cg) (w : World) (e : Ending) (w' : World) : Prop := ∃ (c : Cg) (A : Option Addr) (n cp : Nat), e = .returned (cval c A n cp) ∧ RdR RV 6 w' A n cp c.hs ∧ TyB w' 67 A ∧ CgWf c ∧ Below w.heap.size w w' ∧ c = C

set_option maxRecDepth 100000 in
set_option maxHeartbeats 32000000 in
theorem altered_of (cg : Cg) (A : Option Addr) (n cp : Nat) (how x : Int) (w : World) (C : Cg) (HC : Hid (alC cg (how % 9) x = C)) (h : RdR RV 6 w A n cp cg.hs) (ht : TyB w 67 A) (hwf : CgWf cg) (hsz : cg.tx.size ≤ 100000) (hl : n ≤ 1000) :
    Calls Tryd.prog 12 #[cval cg A n cp, .int .i64 how, .int .i64 x] w (RAlt C w) := by
  obtain ⟨i0, hi0, hz0, hz1, hz2⟩ := info_parts rev_info
  obtain ⟨u0, hu0, hv0, hv1, hv2⟩ := u8_parts
  obtain ⟨kd, us, nt, ts, tn, os, on, tx, z, hs⟩ := cg
  unfold cval
  simp only [] at h hsz ⊢
  have HRD := Lib.hid h
  have HTY := Lib.hid ht
  have HWF := Lib.hid hwf
  have HLN := Lib.hid h.len
  have kb : ((w.alloc (.cells #[.int .i64 kd, .string us, .string nt, .int .i64 ts, .string tn, .int .i64 os, .string on, .string tx, .int .i64 z, .slice A n cp] 31)).alloc (.cells #[.int .i64 0, .string ⟨#[]⟩, .string ⟨#[]⟩, .int .i64 0, .string ⟨#[]⟩, .int .i64 0, .string ⟨#[]⟩, .string ⟨#[]⟩, .int .i64 0, .slice none 0 0] 31)).heap[w.heap.size]? = some (.cells #[.int .i64 kd, .string us, .string nt, .int .i64 ts, .string tn, .int .i64 os, .string on, .string tx, .int .i64 z, .slice A n cp] 31 (0, 0)) := heap_old (heap_new rfl)
  have kr : ((w.alloc (.cells #[.int .i64 kd, .string us, .string nt, .int .i64 ts, .string tn, .int .i64 os, .string on, .string tx, .int .i64 z, .slice A n cp] 31)).alloc (.cells #[.int .i64 0, .string ⟨#[]⟩, .string ⟨#[]⟩, .int .i64 0, .string ⟨#[]⟩, .int .i64 0, .string ⟨#[]⟩, .string ⟨#[]⟩, .int .i64 0, .slice none 0 0] 31)).heap[w.heap.size + 1]? = some (.cells #[.int .i64 0, .string ⟨#[]⟩, .string ⟨#[]⟩, .int .i64 0, .string ⟨#[]⟩, .int .i64 0, .string ⟨#[]⟩, .string ⟨#[]⟩, .int .i64 0, .slice none 0 0] 31 (0, 0)) := heap_new (by rw [size_alloc_])
  have hb0 : Below w.heap.size w ((w.alloc (.cells #[.int .i64 kd, .string us, .string nt, .int .i64 ts, .string tn, .int .i64 os, .string on, .string tx, .int .i64 z, .slice A n cp] 31)).alloc (.cells #[.int .i64 0, .string ⟨#[]⟩, .string ⟨#[]⟩, .int .i64 0, .string ⟨#[]⟩, .int .i64 0, .string ⟨#[]⟩, .string ⟨#[]⟩, .int .i64 0, .slice none 0 0] 31)) := ((Below.refl _ _).alloc (Nat.le_refl _) _).alloc (by rw [size_alloc_]; omega) _
  have hk0 : 0 ≤ how % 9 := Int.emod_nonneg _ (by decide)
  have hk1 : how % 9 < 9 := Int.emod_lt_of_pos _ (by decide)
  have hne : w.heap.size ≠ w.heap.size + 1 := by omega
  have hm16 : Hid (100001 ≤ maxLen) := Lib.hid (by unfold maxLen; omega)
  clear h ht hwf
  go_enter Tryd.func12, Tryd.ntmps12
  go_wp2_with fail
  generalize (w.alloc (.cells #[.int .i64 kd, .string us, .string nt, .int .i64 ts, .string tn, .int .i64 os, .string on, .string tx, .int .i64 z, .slice A n cp] 31)).alloc (.cells #[.int .i64 0, .string ⟨#[]⟩, .string ⟨#[]⟩, .int .i64 0, .string ⟨#[]⟩, .int .i64 0, .string ⟨#[]⟩, .string ⟨#[]⟩, .int .i64 0, .slice none 0 0] 31) = y0 at *
  go_at_call 17
  refine (round_any how 9 y0 (by omega) (by omega)).mono ?_
  rintro e wn ⟨rfl, hwn⟩
  obtain rfl := hwn.symm
  clear hwn
  generalize how % 9 = k9 at *
  have hkk : k9 = 0 ∨ k9 = 1 ∨ k9 = 2 ∨ k9 = 3 ∨ k9 = 4 ∨ k9 = 5 ∨ k9 = 6 ∨ k9 = 7 ∨ k9 = 8 := by omega
  clear hk0 hk1
  rcases hkk with rfl | rfl | rfl | rfl | rfl | rfl | rfl | rfl | rfl
  · replace HC : Hid ((⟨x % 13 - 1, us, nt, ts, tn, os, on, tx, z, hs⟩ : Cg) = C) := Lib.hid HC.out
    have kq := Blk.cell kb
    have kqf := Blk.frozen kb
    go_wp2_with fail
    go_at_call 17
    refine (round_any x 13 y0 (by omega) (by omega)).mono ?_
    rintro e wn ⟨rfl, hwn⟩
    obtain rfl := hwn.symm
    clear hwn
    have ja : 0 ≤ x % 13 := Int.emod_nonneg _ (by decide)
    have jb : x % 13 < 13 := Int.emod_lt_of_pos _ (by decide)
    generalize x % 13 = j at *
    have HW0 := Lib.hid (show Lit.wf (.int .i64 (j - 1)) = true from WalkArith.wf_i64 (by omega))
    have kw0 : (y0.setCell ⟨w.heap.size, 0, none⟩ (.int .i64 (j - 1))).heap[w.heap.size]? = some (.cells #[.int .i64 (j - 1), .string us, .string nt, .int .i64 ts, .string tn, .int .i64 os, .string on, .string tx, .int .i64 z, .slice A n cp] 31 (0, 0)) := heap_set_near _ _ _ _ _ _ kb
    have kbs1 : (y0.setCell ⟨w.heap.size, 0, none⟩ (.int .i64 (j - 1))).heap[w.heap.size]? = _ := kw0
    have krs1 : (y0.setCell ⟨w.heap.size, 0, none⟩ (.int .i64 (j - 1))).heap[w.heap.size + 1]? = _ := ((heap_set_far _ _ _ _ _ hne.symm).trans kr)
    have hbs1 : Below w.heap.size w (y0.setCell ⟨w.heap.size, 0, none⟩ (.int .i64 (j - 1))) := (hb0.setCell (Nat.le_refl _) (.int .i64 (j - 1)))
    clear kb kr hb0 kw0
    go_upto_region 24 with fail
    clear kq kqf
    generalize (y0.setCell ⟨w.heap.size, 0, none⟩ (.int .i64 (j - 1))) = y1 at *
    have kcb := Blk.cell kbs1
    have kfr := Blk.frozen krs1
    have kcr0 := Blk.cell krs1
    have kcz := Blk.cell (ten_kz krs1 (.int .i64 (j - 1)) (.string us) (.string nt) (.int .i64 ts) (.string tn) (.int .i64 os) (.string on) (.string tx) (.int .i64 z) (.slice A n cp))
    have HBF := Lib.hid (below_ten hbs1 (Nat.le_succ _) (.int .i64 (j - 1)) (.string us) (.string nt) (.int .i64 ts) (.string tn) (.int .i64 os) (.string on) (.string tx) (.int .i64 z) (.slice A n cp))
    clear kbs1 krs1 hbs1
    go_wp2_with fail
    refine bodyPost_ret (v := .agg #[.int .i64 (j - 1), .string us, .string nt, .int .i64 ts, .string tn, .int .i64 os, .string on, .string tx, .int .i64 z, .slice A n cp]) ?_ rfl ⟨⟨j - 1, us, nt, ts, tn, os, on, tx, z, hs⟩, A, n, cp, rfl, RdV.below HRD.out HBF.out, HTY.out.below HBF.out, ⟨HW0.out, HWF.out.us, HWF.out.nt, HWF.out.ts, HWF.out.tn, HWF.out.os, HWF.out.on, HWF.out.tx, HWF.out.n, HWF.out.hs⟩, HBF.out, HC.out⟩
    simp [results, Tryd.results12, go_sem, kcz]
  · replace HC : Hid ((⟨kd, alU (x % 5).toNat, nt, ts, tn, os, on, tx, z, hs⟩ : Cg) = C) := Lib.hid HC.out
    have kq := Blk.cell kb
    have kqf := Blk.frozen kb
    go_wp2_with fail
    go_at_call 17
    refine (round_any x 5 y0 (by omega) (by omega)).mono ?_
    rintro e wn ⟨rfl, hwn⟩
    obtain rfl := hwn.symm
    clear hwn
    have ja : 0 ≤ x % 5 := Int.emod_nonneg _ (by decide)
    have jb : x % 5 < 5 := Int.emod_lt_of_pos _ (by decide)
    generalize x % 5 = j at *
    obtain ⟨j, rfl⟩ := Int.eq_ofNat_of_zero_le ja
    simp only [Int.toNat_natCast] at HC
    have hix := alU_idx (k := j) (by omega)
    have hz := alU_ok j
    generalize alU j = v at *
    have kw1 : (y0.setCell ⟨w.heap.size, 1, none⟩ (.string v)).heap[w.heap.size]? = some (.cells #[.int .i64 kd, .string v, .string nt, .int .i64 ts, .string tn, .int .i64 os, .string on, .string tx, .int .i64 z, .slice A n cp] 31 (0, 0)) := heap_set_near _ _ _ _ _ _ kb
    have kbs1 : (y0.setCell ⟨w.heap.size, 1, none⟩ (.string v)).heap[w.heap.size]? = _ := kw1
    have krs1 : (y0.setCell ⟨w.heap.size, 1, none⟩ (.string v)).heap[w.heap.size + 1]? = _ := ((heap_set_far _ _ _ _ _ hne.symm).trans kr)
    have hbs1 : Below w.heap.size w (y0.setCell ⟨w.heap.size, 1, none⟩ (.string v)) := (hb0.setCell (Nat.le_refl _) (.string v))
    clear kb kr hb0 kw1
    go_upto_region 24 with fail
    clear kq kqf
    generalize (y0.setCell ⟨w.heap.size, 1, none⟩ (.string v)) = y1 at *
    have HW0 : Hid (v.size ≤ maxLen) := Lib.hid (Nat.le_trans (by omega) hm16.out)
    have kcb := Blk.cell kbs1
    have kfr := Blk.frozen krs1
    have kcr0 := Blk.cell krs1
    have kcz := Blk.cell (ten_kz krs1 (.int .i64 kd) (.string v) (.string nt) (.int .i64 ts) (.string tn) (.int .i64 os) (.string on) (.string tx) (.int .i64 z) (.slice A n cp))
    have HBF := Lib.hid (below_ten hbs1 (Nat.le_succ _) (.int .i64 kd) (.string v) (.string nt) (.int .i64 ts) (.string tn) (.int .i64 os) (.string on) (.string tx) (.int .i64 z) (.slice A n cp))
    clear kbs1 krs1 hbs1
    go_wp2_with fail
    refine bodyPost_ret (v := .agg #[.int .i64 kd, .string v, .string nt, .int .i64 ts, .string tn, .int .i64 os, .string on, .string tx, .int .i64 z, .slice A n cp]) ?_ rfl ⟨⟨kd, v, nt, ts, tn, os, on, tx, z, hs⟩, A, n, cp, rfl, RdV.below HRD.out HBF.out, HTY.out.below HBF.out, ⟨HWF.out.kd, HW0.out, HWF.out.nt, HWF.out.ts, HWF.out.tn, HWF.out.os, HWF.out.on, HWF.out.tx, HWF.out.n, HWF.out.hs⟩, HBF.out, HC.out⟩
    simp [results, Tryd.results12, go_sem, kcz]
  · replace HC : Hid ((⟨kd, us, nt, alT (x % 5).toNat, alN (x % 5).toNat, os, on, tx, z, hs⟩ : Cg) = C) := Lib.hid HC.out
    have kq := Blk.cell kb
    have kqf := Blk.frozen kb
    go_wp2_with fail
    go_at_call 17
    refine (round_any x 5 y0 (by omega) (by omega)).mono ?_
    rintro e wn ⟨rfl, hwn⟩
    obtain rfl := hwn.symm
    clear hwn
    have ja : 0 ≤ x % 5 := Int.emod_nonneg _ (by decide)
    have jb : x % 5 < 5 := Int.emod_lt_of_pos _ (by decide)
    generalize x % 5 = j at *
    obtain ⟨j, rfl⟩ := Int.eq_ofNat_of_zero_le ja
    simp only [Int.toNat_natCast] at HC
    have hix := alT_idx (k := j) (by omega)
    have hz := alT_ok j
    have hy := alN_ok j
    generalize alT j = v at *
    generalize alN j = u at *
    have kw3 : (y0.setCell ⟨w.heap.size, 3, none⟩ (.int .i64 v)).heap[w.heap.size]? = some (.cells #[.int .i64 kd, .string us, .string nt, .int .i64 v, .string tn, .int .i64 os, .string on, .string tx, .int .i64 z, .slice A n cp] 31 (0, 0)) := heap_set_near _ _ _ _ _ _ kb
    have kw4 : ((y0.setCell ⟨w.heap.size, 3, none⟩ (.int .i64 v)).setCell ⟨w.heap.size, 4, none⟩ (.string u)).heap[w.heap.size]? = some (.cells #[.int .i64 kd, .string us, .string nt, .int .i64 v, .string u, .int .i64 os, .string on, .string tx, .int .i64 z, .slice A n cp] 31 (0, 0)) := heap_set_near _ _ _ _ _ _ kw3
    have kbs1 : ((y0.setCell ⟨w.heap.size, 3, none⟩ (.int .i64 v)).setCell ⟨w.heap.size, 4, none⟩ (.string u)).heap[w.heap.size]? = _ := kw4
    have krs1 : ((y0.setCell ⟨w.heap.size, 3, none⟩ (.int .i64 v)).setCell ⟨w.heap.size, 4, none⟩ (.string u)).heap[w.heap.size + 1]? = _ := ((heap_set_far _ _ _ _ _ hne.symm).trans ((heap_set_far _ _ _ _ _ hne.symm).trans kr))
    have hbs1 : Below w.heap.size w ((y0.setCell ⟨w.heap.size, 3, none⟩ (.int .i64 v)).setCell ⟨w.heap.size, 4, none⟩ (.string u)) := ((hb0.setCell (Nat.le_refl _) (.int .i64 v)).setCell (Nat.le_refl _) (.string u))
    clear kb kr hb0 kw3 kw4
    go_upto_region 24 with fail
    clear kq kqf
    generalize ((y0.setCell ⟨w.heap.size, 3, none⟩ (.int .i64 v)).setCell ⟨w.heap.size, 4, none⟩ (.string u)) = y1 at *
    have HW0 := Lib.hid (show Lit.wf (.int .i64 v) = true from WalkArith.wf_i64 (by omega))
    have HW1 : Hid (u.size ≤ maxLen) := Lib.hid (Nat.le_trans (by omega) hm16.out)
    have kcb := Blk.cell kbs1
    have kfr := Blk.frozen krs1
    have kcr0 := Blk.cell krs1
    have kcz := Blk.cell (ten_kz krs1 (.int .i64 kd) (.string us) (.string nt) (.int .i64 v) (.string u) (.int .i64 os) (.string on) (.string tx) (.int .i64 z) (.slice A n cp))
    have HBF := Lib.hid (below_ten hbs1 (Nat.le_succ _) (.int .i64 kd) (.string us) (.string nt) (.int .i64 v) (.string u) (.int .i64 os) (.string on) (.string tx) (.int .i64 z) (.slice A n cp))
    clear kbs1 krs1 hbs1
    go_wp2_with fail
    refine bodyPost_ret (v := .agg #[.int .i64 kd, .string us, .string nt, .int .i64 v, .string u, .int .i64 os, .string on, .string tx, .int .i64 z, .slice A n cp]) ?_ rfl ⟨⟨kd, us, nt, v, u, os, on, tx, z, hs⟩, A, n, cp, rfl, RdV.below HRD.out HBF.out, HTY.out.below HBF.out, ⟨HWF.out.kd, HWF.out.us, HWF.out.nt, HW0.out, HW1.out, HWF.out.os, HWF.out.on, HWF.out.tx, HWF.out.n, HWF.out.hs⟩, HBF.out, HC.out⟩
    simp [results, Tryd.results12, go_sem, kcz]
  · replace HC : Hid ((⟨kd, us, nt, ts, tn, alS (x % 4).toNat, alM (x % 4).toNat, tx, z, hs⟩ : Cg) = C) := Lib.hid HC.out
    have kq := Blk.cell kb
    have kqf := Blk.frozen kb
    go_wp2_with fail
    go_at_call 17
    refine (round_any x 4 y0 (by omega) (by omega)).mono ?_
    rintro e wn ⟨rfl, hwn⟩
    obtain rfl := hwn.symm
    clear hwn
    have ja : 0 ≤ x % 4 := Int.emod_nonneg _ (by decide)
    have jb : x % 4 < 4 := Int.emod_lt_of_pos _ (by decide)
    generalize x % 4 = j at *
    obtain ⟨j, rfl⟩ := Int.eq_ofNat_of_zero_le ja
    simp only [Int.toNat_natCast] at HC
    have hix := alS_idx (k := j) (by omega)
    have hz := alS_ok j
    have hy := alM_ok j
    generalize alS j = v at *
    generalize alM j = u at *
    have kw5 : (y0.setCell ⟨w.heap.size, 5, none⟩ (.int .i64 v)).heap[w.heap.size]? = some (.cells #[.int .i64 kd, .string us, .string nt, .int .i64 ts, .string tn, .int .i64 v, .string on, .string tx, .int .i64 z, .slice A n cp] 31 (0, 0)) := heap_set_near _ _ _ _ _ _ kb
    have kw6 : ((y0.setCell ⟨w.heap.size, 5, none⟩ (.int .i64 v)).setCell ⟨w.heap.size, 6, none⟩ (.string u)).heap[w.heap.size]? = some (.cells #[.int .i64 kd, .string us, .string nt, .int .i64 ts, .string tn, .int .i64 v, .string u, .string tx, .int .i64 z, .slice A n cp] 31 (0, 0)) := heap_set_near _ _ _ _ _ _ kw5
    have kbs1 : ((y0.setCell ⟨w.heap.size, 5, none⟩ (.int .i64 v)).setCell ⟨w.heap.size, 6, none⟩ (.string u)).heap[w.heap.size]? = _ := kw6
    have krs1 : ((y0.setCell ⟨w.heap.size, 5, none⟩ (.int .i64 v)).setCell ⟨w.heap.size, 6, none⟩ (.string u)).heap[w.heap.size + 1]? = _ := ((heap_set_far _ _ _ _ _ hne.symm).trans ((heap_set_far _ _ _ _ _ hne.symm).trans kr))
    have hbs1 : Below w.heap.size w ((y0.setCell ⟨w.heap.size, 5, none⟩ (.int .i64 v)).setCell ⟨w.heap.size, 6, none⟩ (.string u)) := ((hb0.setCell (Nat.le_refl _) (.int .i64 v)).setCell (Nat.le_refl _) (.string u))
    clear kb kr hb0 kw5 kw6
    go_upto_region 24 with fail
    clear kq kqf
    generalize ((y0.setCell ⟨w.heap.size, 5, none⟩ (.int .i64 v)).setCell ⟨w.heap.size, 6, none⟩ (.string u)) = y1 at *
    have HW0 := Lib.hid (show Lit.wf (.int .i64 v) = true from WalkArith.wf_i64 (by omega))
    have HW1 : Hid (u.size ≤ maxLen) := Lib.hid (Nat.le_trans (by omega) hm16.out)
    have kcb := Blk.cell kbs1
    have kfr := Blk.frozen krs1
    have kcr0 := Blk.cell krs1
    have kcz := Blk.cell (ten_kz krs1 (.int .i64 kd) (.string us) (.string nt) (.int .i64 ts) (.string tn) (.int .i64 v) (.string u) (.string tx) (.int .i64 z) (.slice A n cp))
    have HBF := Lib.hid (below_ten hbs1 (Nat.le_succ _) (.int .i64 kd) (.string us) (.string nt) (.int .i64 ts) (.string tn) (.int .i64 v) (.string u) (.string tx) (.int .i64 z) (.slice A n cp))
    clear kbs1 krs1 hbs1
    go_wp2_with fail
    refine bodyPost_ret (v := .agg #[.int .i64 kd, .string us, .string nt, .int .i64 ts, .string tn, .int .i64 v, .string u, .string tx, .int .i64 z, .slice A n cp]) ?_ rfl ⟨⟨kd, us, nt, ts, tn, v, u, tx, z, hs⟩, A, n, cp, rfl, RdV.below HRD.out HBF.out, HTY.out.below HBF.out, ⟨HWF.out.kd, HWF.out.us, HWF.out.nt, HWF.out.ts, HWF.out.tn, HW0.out, HW1.out, HWF.out.tx, HWF.out.n, HWF.out.hs⟩, HBF.out, HC.out⟩
    simp [results, Tryd.results12, go_sem, kcz]
  · replace HC : Hid ((⟨kd, us, nt, ts, tn, os, on, tx, alI (x % 8).toNat, hs⟩ : Cg) = C) := Lib.hid HC.out
    have kq := Blk.cell kb
    have kqf := Blk.frozen kb
    go_wp2_with fail
    go_at_call 17
    refine (round_any x 8 y0 (by omega) (by omega)).mono ?_
    rintro e wn ⟨rfl, hwn⟩
    obtain rfl := hwn.symm
    clear hwn
    have ja : 0 ≤ x % 8 := Int.emod_nonneg _ (by decide)
    have jb : x % 8 < 8 := Int.emod_lt_of_pos _ (by decide)
    generalize x % 8 = j at *
    obtain ⟨j, rfl⟩ := Int.eq_ofNat_of_zero_le ja
    simp only [Int.toNat_natCast] at HC
    have hix := alI_idx (k := j) (by omega)
    have hz := alI_ok j
    generalize alI j = v at *
    have kw8 : (y0.setCell ⟨w.heap.size, 8, none⟩ (.int .i64 v)).heap[w.heap.size]? = some (.cells #[.int .i64 kd, .string us, .string nt, .int .i64 ts, .string tn, .int .i64 os, .string on, .string tx, .int .i64 v, .slice A n cp] 31 (0, 0)) := heap_set_near _ _ _ _ _ _ kb
    have kbs1 : (y0.setCell ⟨w.heap.size, 8, none⟩ (.int .i64 v)).heap[w.heap.size]? = _ := kw8
    have krs1 : (y0.setCell ⟨w.heap.size, 8, none⟩ (.int .i64 v)).heap[w.heap.size + 1]? = _ := ((heap_set_far _ _ _ _ _ hne.symm).trans kr)
    have hbs1 : Below w.heap.size w (y0.setCell ⟨w.heap.size, 8, none⟩ (.int .i64 v)) := (hb0.setCell (Nat.le_refl _) (.int .i64 v))
    clear kb kr hb0 kw8
    go_upto_region 24 with fail
    clear kq kqf
    generalize (y0.setCell ⟨w.heap.size, 8, none⟩ (.int .i64 v)) = y1 at *
    have HW0 := Lib.hid (show Lit.wf (.int .i64 v) = true from WalkArith.wf_i64 (by omega))
    have kcb := Blk.cell kbs1
    have kfr := Blk.frozen krs1
    have kcr0 := Blk.cell krs1
    have kcz := Blk.cell (ten_kz krs1 (.int .i64 kd) (.string us) (.string nt) (.int .i64 ts) (.string tn) (.int .i64 os) (.string on) (.string tx) (.int .i64 v) (.slice A n cp))
    have HBF := Lib.hid (below_ten hbs1 (Nat.le_succ _) (.int .i64 kd) (.string us) (.string nt) (.int .i64 ts) (.string tn) (.int .i64 os) (.string on) (.string tx) (.int .i64 v) (.slice A n cp))
    clear kbs1 krs1 hbs1
    go_wp2_with fail
    refine bodyPost_ret (v := .agg #[.int .i64 kd, .string us, .string nt, .int .i64 ts, .string tn, .int .i64 os, .string on, .string tx, .int .i64 v, .slice A n cp]) ?_ rfl ⟨⟨kd, us, nt, ts, tn, os, on, tx, v, hs⟩, A, n, cp, rfl, RdV.below HRD.out HBF.out, HTY.out.below HBF.out, ⟨HWF.out.kd, HWF.out.us, HWF.out.nt, HWF.out.ts, HWF.out.tn, HWF.out.os, HWF.out.on, HWF.out.tx, HW0.out, HWF.out.hs⟩, HBF.out, HC.out⟩
    simp [results, Tryd.results12, go_sem, kcz]
  · replace HC : Hid ((⟨kd, us, nt, ts, tn, os, on, tx ++ alX (x % 2).toNat, z, hs⟩ : Cg) = C) := Lib.hid HC.out
    have kq := Blk.cell kb
    have kqf := Blk.frozen kb
    have HR := Lib.hid (fun W => round_any x 2 W (by omega) (by omega))
    have ja : 0 ≤ x % 2 := Int.emod_nonneg _ (by decide)
    have jb : x % 2 < 2 := Int.emod_lt_of_pos _ (by decide)
    generalize x % 2 = j at *
    obtain ⟨j, rfl⟩ := Int.eq_ofNat_of_zero_le ja
    simp only [Int.toNat_natCast] at HC
    have hix := alX_idx (k := j) (by omega)
    have hz := alX_ok j
    generalize alX j = v at *
    have hcs : ¬ (9223372036854775807 < tx.size + v.size) := by omega
    have HW0 : Hid ((tx ++ v).size ≤ maxLen) := Lib.hid (by have := hm16.out; rw [cat_size]; omega)
    go_upto_region 19 with fail
    refine wp_region_held_drew (S := fun _ => True) (by kernel_rfl) ?_ (fun hHeld0 => ?_)
    · try dsimp only
      try exact trivial
    refine wpAnyH_take (i := 0) (oi := { dst := some 93, op := Go.Op.fieldAddr 31 (Go.Operand.tmp 3) 5, type := 0, pos := "law.go:32", after := #[], guard := none }) (v := .pointer (some ⟨w.heap.size, 7, none⟩)) rfl (by kernel_rfl) (by kernel_rfl) (by kernel_rfl) (fun _ _ _ h => h) (Or.inl ⟨by rfl, ?_⟩) (by assumption) ?_
    · (intro W hSw; (try dsimp only at hSw); go_simp; try with_reducible rfl)
    try simp only [Act.put, List.setIfInBounds_toArray, List.set_cons_zero, List.set_cons_succ]
    refine wpAnyH_take (i := 2) (oi := { dst := some 95, op := Go.Op.build 64 #[(0, Go.Operand.const (Go.Value.string { data := #[] })), (1, Go.Operand.const (Go.Value.string { data := #[120] }))], type := 64, pos := "law.go:32", after := #[], guard := none }) (v := .agg #[.string ⟨#[]⟩, .string ⟨#[120]⟩]) rfl (by kernel_rfl) (by kernel_rfl) (by kernel_rfl) (fun _ _ _ h => h) (Or.inl ⟨by rfl, ?_⟩) (by assumption) ?_
    · (intro W hSw; (try dsimp only at hSw); go_simp; try with_reducible rfl)
    try simp only [Act.put, List.setIfInBounds_toArray, List.set_cons_zero, List.set_cons_succ]
    refine wpAnyH_take (i := 3) (oi := { dst := some 96, op := Go.Op.move (Go.Operand.tmp 2), type := 3, pos := "law.go:32", after := #[], guard := none }) (v := .int .i64 x) rfl (by kernel_rfl) (by kernel_rfl) (by kernel_rfl) (fun _ _ _ h => h) (Or.inl ⟨by rfl, ?_⟩) (by assumption) ?_
    · (intro W hSw; (try dsimp only at hSw); go_simp; try with_reducible rfl)
    try simp only [Act.put, List.setIfInBounds_toArray, List.set_cons_zero, List.set_cons_succ]
    refine wpAnyH_ready (rs := [1, 4]) (by kernel_rfl) (by simp) ?_
    refine AllReadyH.cons (o := { dst := some 94, op := Go.Op.load 9 (Go.Operand.tmp 93), type := 9, pos := "law.go:32", after := #[{ on := 0, ground := Go.Ground.data }], guard := none }) rfl (fun K hK => ?_) ?_
    · go_simp
      refine hK.out _ _ ?_ (fun hHeld1 => ?_)
      · try dsimp only
        try exact trivial
      clear hK K hHeld0
      try simp only [Act.put, List.setIfInBounds_toArray, List.set_cons_zero, List.set_cons_succ]
      refine wpAnyH_ready (rs := [4]) (by kernel_rfl) (by simp) ?_
      refine AllReadyH.cons (o := { dst := some 97, op := Go.Op.call { callee := Go.Callee.value (Go.Operand.func 17), args := #[Go.Operand.tmp 96, Go.Operand.const (Go.Value.int Go.IntKind.i64 2)], argTypes := #[3, 3] }, type := 3, pos := "law.go:32", after := #[{ on := 3, ground := Go.Ground.data }], guard := none }) rfl (fun K hK => ?_) ?_
      · go_simp
        (go_at_call 17; refine (HR.out _).mono ?_; rintro e wn ⟨rfl, hwn⟩; obtain rfl := hwn.symm; clear hwn)
        try go_wp2_with fail
        refine hK.out _ _ ?_ (fun hHeld2 => ?_)
        · try dsimp only
          try exact trivial
        clear hK K hHeld1
        try simp only [Act.put, List.setIfInBounds_toArray, List.set_cons_zero, List.set_cons_succ]
        refine wpAnyH_take (i := 5) (oi := { dst := some 98, op := Go.Op.index 64 (Go.Operand.tmp 95) (Go.Operand.tmp 97), type := 9, pos := "law.go:32", after := #[{ on := 2, ground := Go.Ground.data }, { on := 4, ground := Go.Ground.data }], guard := none }) (v := .string v) rfl (by kernel_rfl) (by kernel_rfl) (by kernel_rfl) (fun _ _ _ h => h) (Or.inl ⟨by rfl, ?_⟩) (by assumption) ?_
        · (intro W hSw; (try dsimp only at hSw); go_simp; try with_reducible rfl)
        try simp only [Act.put, List.setIfInBounds_toArray, List.set_cons_zero, List.set_cons_succ]
        refine wpAnyH_take (i := 6) (oi := { dst := some 99, op := Go.Op.binOp Go.BinOp.add 9 (Go.Operand.tmp 94) (Go.Operand.tmp 98) 9, type := 9, pos := "law.go:32", after := #[{ on := 1, ground := Go.Ground.data }, { on := 5, ground := Go.Ground.data }], guard := none }) (v := .string (tx ++ v)) rfl (by kernel_rfl) (by kernel_rfl) (by kernel_rfl) (fun _ _ _ h => h) (Or.inl ⟨by rfl, ?_⟩) (by assumption) ?_
        · (intro W hSw; (try dsimp only at hSw); go_simp; try with_reducible rfl)
        try simp only [Act.put, List.setIfInBounds_toArray, List.set_cons_zero, List.set_cons_succ]
        refine wpAnyH_take (i := 7) (oi := { dst := some 100, op := Go.Op.fieldAddr 31 (Go.Operand.tmp 3) 5, type := 0, pos := "law.go:32", after := #[{ on := 0, ground := Go.Ground.phase }, { on := 1, ground := Go.Ground.phase }, { on := 2, ground := Go.Ground.phase }, { on := 3, ground := Go.Ground.phase }, { on := 4, ground := Go.Ground.phase }, { on := 5, ground := Go.Ground.phase }, { on := 6, ground := Go.Ground.phase }], guard := none }) (v := .pointer (some ⟨w.heap.size, 7, none⟩)) rfl (by kernel_rfl) (by kernel_rfl) (by kernel_rfl) (fun _ _ _ h => h) (Or.inl ⟨by rfl, ?_⟩) (by assumption) ?_
        · (intro W hSw; (try dsimp only at hSw); go_simp; try with_reducible rfl)
        try simp only [Act.put, List.setIfInBounds_toArray, List.set_cons_zero, List.set_cons_succ]
        refine wpAnyH_ready (rs := [8]) (by kernel_rfl) (by simp) ?_
        refine AllReadyH.cons (o := { dst := none, op := Go.Op.store 9 (Go.Operand.tmp 100) (Go.Operand.tmp 99), type := 0, pos := "law.go:32", after := #[{ on := 7, ground := Go.Ground.data }, { on := 6, ground := Go.Ground.data }, { on := 4, ground := Go.Ground.chain }, { on := 0, ground := Go.Ground.phase }, { on := 1, ground := Go.Ground.phase }, { on := 2, ground := Go.Ground.phase }, { on := 3, ground := Go.Ground.phase }, { on := 4, ground := Go.Ground.phase }, { on := 5, ground := Go.Ground.phase }, { on := 6, ground := Go.Ground.phase }], guard := none }) rfl (fun K hK => ?_) ?_
        · go_simp
          refine hK.out _ _ ?_ (fun hHeld3 => ?_)
          · try dsimp only
            try exact trivial
          clear hK K hHeld2
          try simp only [Act.put, List.setIfInBounds_toArray, List.set_cons_zero, List.set_cons_succ]
          refine wpAnyH_done (by kernel_rfl) ?_ _
          have kw7 : (y0.setCell ⟨w.heap.size, 7, none⟩ (.string (tx ++ v))).heap[w.heap.size]? = some (.cells #[.int .i64 kd, .string us, .string nt, .int .i64 ts, .string tn, .int .i64 os, .string on, .string (tx ++ v), .int .i64 z, .slice A n cp] 31 (0, 0)) := heap_set_near _ _ _ _ _ _ kb
          have hbsx1 : Below w.heap.size w (y0.setCell ⟨w.heap.size, 7, none⟩ (.string (tx ++ v))) := (hb0.setCell (Nat.le_refl _) (.string (tx ++ v)))
          have kbs1 : (y0.setCell ⟨w.heap.size, 7, none⟩ (.string (tx ++ v))).drew.heap[w.heap.size]? = _ := kw7
          have krs1 : (y0.setCell ⟨w.heap.size, 7, none⟩ (.string (tx ++ v))).drew.heap[w.heap.size + 1]? = _ := ((heap_set_far _ _ _ _ _ hne.symm).trans kr)
          have hbs1 : Below w.heap.size w (y0.setCell ⟨w.heap.size, 7, none⟩ (.string (tx ++ v))).drew := below_drw hbsx1
          clear hbsx1
          clear kb kr hb0 kw7
          go_upto_region 24 with fail
          clear kq kqf
          generalize (y0.setCell ⟨w.heap.size, 7, none⟩ (.string (tx ++ v))).drew = y1 at *
          have kcb := Blk.cell kbs1
          have kfr := Blk.frozen krs1
          have kcr0 := Blk.cell krs1
          have kcz := Blk.cell (ten_kz krs1 (.int .i64 kd) (.string us) (.string nt) (.int .i64 ts) (.string tn) (.int .i64 os) (.string on) (.string (tx ++ v)) (.int .i64 z) (.slice A n cp))
          have HBF := Lib.hid (below_ten hbs1 (Nat.le_succ _) (.int .i64 kd) (.string us) (.string nt) (.int .i64 ts) (.string tn) (.int .i64 os) (.string on) (.string (tx ++ v)) (.int .i64 z) (.slice A n cp))
          clear kbs1 krs1 hbs1
          go_wp2_with fail
          refine bodyPost_ret (v := .agg #[.int .i64 kd, .string us, .string nt, .int .i64 ts, .string tn, .int .i64 os, .string on, .string (tx ++ v), .int .i64 z, .slice A n cp]) ?_ rfl ⟨⟨kd, us, nt, ts, tn, os, on, (tx ++ v), z, hs⟩, A, n, cp, rfl, RdV.below HRD.out HBF.out, HTY.out.below HBF.out, ⟨HWF.out.kd, HWF.out.us, HWF.out.nt, HWF.out.ts, HWF.out.tn, HWF.out.os, HWF.out.on, HW0.out, HWF.out.n, HWF.out.hs⟩, HBF.out, HC.out⟩
          simp [results, Tryd.results12, go_sem, kcz]
        exact AllReadyH.nil
      exact AllReadyH.nil
    refine AllReadyH.cons (o := { dst := some 97, op := Go.Op.call { callee := Go.Callee.value (Go.Operand.func 17), args := #[Go.Operand.tmp 96, Go.Operand.const (Go.Value.int Go.IntKind.i64 2)], argTypes := #[3, 3] }, type := 3, pos := "law.go:32", after := #[{ on := 3, ground := Go.Ground.data }], guard := none }) rfl (fun K hK => ?_) ?_
    · go_simp
      (go_at_call 17; refine (HR.out _).mono ?_; rintro e wn ⟨rfl, hwn⟩; obtain rfl := hwn.symm; clear hwn)
      try go_wp2_with fail
      refine hK.out _ _ ?_ (fun hHeld1 => ?_)
      · try dsimp only
        try exact trivial
      clear hK K hHeld0
      try simp only [Act.put, List.setIfInBounds_toArray, List.set_cons_zero, List.set_cons_succ]
      refine wpAnyH_take (i := 5) (oi := { dst := some 98, op := Go.Op.index 64 (Go.Operand.tmp 95) (Go.Operand.tmp 97), type := 9, pos := "law.go:32", after := #[{ on := 2, ground := Go.Ground.data }, { on := 4, ground := Go.Ground.data }], guard := none }) (v := .string v) rfl (by kernel_rfl) (by kernel_rfl) (by kernel_rfl) (fun _ _ _ h => h) (Or.inl ⟨by rfl, ?_⟩) (by assumption) ?_
      · (intro W hSw; (try dsimp only at hSw); go_simp; try with_reducible rfl)
      try simp only [Act.put, List.setIfInBounds_toArray, List.set_cons_zero, List.set_cons_succ]
      refine wpAnyH_ready (rs := [1]) (by kernel_rfl) (by simp) ?_
      refine AllReadyH.cons (o := { dst := some 94, op := Go.Op.load 9 (Go.Operand.tmp 93), type := 9, pos := "law.go:32", after := #[{ on := 0, ground := Go.Ground.data }], guard := none }) rfl (fun K hK => ?_) ?_
      · go_simp
        refine hK.out _ _ ?_ (fun hHeld2 => ?_)
        · try dsimp only
          try exact trivial
        clear hK K hHeld1
        try simp only [Act.put, List.setIfInBounds_toArray, List.set_cons_zero, List.set_cons_succ]
        refine wpAnyH_take (i := 6) (oi := { dst := some 99, op := Go.Op.binOp Go.BinOp.add 9 (Go.Operand.tmp 94) (Go.Operand.tmp 98) 9, type := 9, pos := "law.go:32", after := #[{ on := 1, ground := Go.Ground.data }, { on := 5, ground := Go.Ground.data }], guard := none }) (v := .string (tx ++ v)) rfl (by kernel_rfl) (by kernel_rfl) (by kernel_rfl) (fun _ _ _ h => h) (Or.inl ⟨by rfl, ?_⟩) (by assumption) ?_
        · (intro W hSw; (try dsimp only at hSw); go_simp; try with_reducible rfl)
        try simp only [Act.put, List.setIfInBounds_toArray, List.set_cons_zero, List.set_cons_succ]
        refine wpAnyH_take (i := 7) (oi := { dst := some 100, op := Go.Op.fieldAddr 31 (Go.Operand.tmp 3) 5, type := 0, pos := "law.go:32", after := #[{ on := 0, ground := Go.Ground.phase }, { on := 1, ground := Go.Ground.phase }, { on := 2, ground := Go.Ground.phase }, { on := 3, ground := Go.Ground.phase }, { on := 4, ground := Go.Ground.phase }, { on := 5, ground := Go.Ground.phase }, { on := 6, ground := Go.Ground.phase }], guard := none }) (v := .pointer (some ⟨w.heap.size, 7, none⟩)) rfl (by kernel_rfl) (by kernel_rfl) (by kernel_rfl) (fun _ _ _ h => h) (Or.inl ⟨by rfl, ?_⟩) (by assumption) ?_
        · (intro W hSw; (try dsimp only at hSw); go_simp; try with_reducible rfl)
        try simp only [Act.put, List.setIfInBounds_toArray, List.set_cons_zero, List.set_cons_succ]
        refine wpAnyH_ready (rs := [8]) (by kernel_rfl) (by simp) ?_
        refine AllReadyH.cons (o := { dst := none, op := Go.Op.store 9 (Go.Operand.tmp 100) (Go.Operand.tmp 99), type := 0, pos := "law.go:32", after := #[{ on := 7, ground := Go.Ground.data }, { on := 6, ground := Go.Ground.data }, { on := 4, ground := Go.Ground.chain }, { on := 0, ground := Go.Ground.phase }, { on := 1, ground := Go.Ground.phase }, { on := 2, ground := Go.Ground.phase }, { on := 3, ground := Go.Ground.phase }, { on := 4, ground := Go.Ground.phase }, { on := 5, ground := Go.Ground.phase }, { on := 6, ground := Go.Ground.phase }], guard := none }) rfl (fun K hK => ?_) ?_
        · go_simp
          refine hK.out _ _ ?_ (fun hHeld3 => ?_)
          · try dsimp only
            try exact trivial
          clear hK K hHeld2
          try simp only [Act.put, List.setIfInBounds_toArray, List.set_cons_zero, List.set_cons_succ]
          refine wpAnyH_done (by kernel_rfl) ?_ _
          have kw7 : (y0.setCell ⟨w.heap.size, 7, none⟩ (.string (tx ++ v))).heap[w.heap.size]? = some (.cells #[.int .i64 kd, .string us, .string nt, .int .i64 ts, .string tn, .int .i64 os, .string on, .string (tx ++ v), .int .i64 z, .slice A n cp] 31 (0, 0)) := heap_set_near _ _ _ _ _ _ kb
          have hbsx1 : Below w.heap.size w (y0.setCell ⟨w.heap.size, 7, none⟩ (.string (tx ++ v))) := (hb0.setCell (Nat.le_refl _) (.string (tx ++ v)))
          have kbs1 : (y0.setCell ⟨w.heap.size, 7, none⟩ (.string (tx ++ v))).drew.heap[w.heap.size]? = _ := kw7
          have krs1 : (y0.setCell ⟨w.heap.size, 7, none⟩ (.string (tx ++ v))).drew.heap[w.heap.size + 1]? = _ := ((heap_set_far _ _ _ _ _ hne.symm).trans kr)
          have hbs1 : Below w.heap.size w (y0.setCell ⟨w.heap.size, 7, none⟩ (.string (tx ++ v))).drew := below_drw hbsx1
          clear hbsx1
          clear kb kr hb0 kw7
          go_upto_region 24 with fail
          clear kq kqf
          generalize (y0.setCell ⟨w.heap.size, 7, none⟩ (.string (tx ++ v))).drew = y1 at *
          have kcb := Blk.cell kbs1
          have kfr := Blk.frozen krs1
          have kcr0 := Blk.cell krs1
          have kcz := Blk.cell (ten_kz krs1 (.int .i64 kd) (.string us) (.string nt) (.int .i64 ts) (.string tn) (.int .i64 os) (.string on) (.string (tx ++ v)) (.int .i64 z) (.slice A n cp))
          have HBF := Lib.hid (below_ten hbs1 (Nat.le_succ _) (.int .i64 kd) (.string us) (.string nt) (.int .i64 ts) (.string tn) (.int .i64 os) (.string on) (.string (tx ++ v)) (.int .i64 z) (.slice A n cp))
          clear kbs1 krs1 hbs1
          go_wp2_with fail
          refine bodyPost_ret (v := .agg #[.int .i64 kd, .string us, .string nt, .int .i64 ts, .string tn, .int .i64 os, .string on, .string (tx ++ v), .int .i64 z, .slice A n cp]) ?_ rfl ⟨⟨kd, us, nt, ts, tn, os, on, (tx ++ v), z, hs⟩, A, n, cp, rfl, RdV.below HRD.out HBF.out, HTY.out.below HBF.out, ⟨HWF.out.kd, HWF.out.us, HWF.out.nt, HWF.out.ts, HWF.out.tn, HWF.out.os, HWF.out.on, HW0.out, HWF.out.n, HWF.out.hs⟩, HBF.out, HC.out⟩
          simp [results, Tryd.results12, go_sem, kcz]
        exact AllReadyH.nil
      exact AllReadyH.nil
    exact AllReadyH.nil
  · replace HC : Hid ((⟨kd, us, alP (zs6 201) (x % 3).toNat, ts, tn, os, on, tx, z, hs⟩ : Cg) = C) := Lib.hid HC.out
    have kq := Blk.cell kb
    have kqf := Blk.frozen kb
    have hsv := zs6_size 201
    have hcv := zs6_conv 201 (by omega)
    generalize zs6 201 = s at *
    have hmk : ∀ W : World, (Instr.makeSlice 33 (.int .i64 201) (.int .i64 201)).run Tryd.prog W = .ok (.slice (some ⟨W.heap.size, 0, none⟩) 201 201) (W.alloc (.cells (madeCells #[.int .u8 0] 201) 5)) := fun W : World => run_make_u8 (P := Tryd.prog) (t := 33) Tryd.underlying33 hu0 hv0 hv1 hv2 201 (by omega) W
    have HR := Lib.hid (fun W => round_any x 3 W (by omega) (by omega))
    have ja : 0 ≤ x % 3 := Int.emod_nonneg _ (by decide)
    have jb : x % 3 < 3 := Int.emod_lt_of_pos _ (by decide)
    generalize x % 3 = j at *
    obtain ⟨j, rfl⟩ := Int.eq_ofNat_of_zero_le ja
    simp only [Int.toNat_natCast] at HC
    have hix := alP_idx s (k := j) (by omega)
    have hz := alP_ok (s := s) (by omega) j
    generalize alP s j = v at *
    have HW0 : Hid (v.size ≤ maxLen) := Lib.hid (Nat.le_trans (by omega) hm16.out)
    go_upto_region 21 with fail
    have hal : Below y0.heap.size y0 (y0.alloc (.cells (madeCells #[.int .u8 0] 201) 5)) := (Below.refl _ _).alloc (Nat.le_refl _) _
    have kb2 := heap_call hal kb
    have kr2 := heap_call hal kr
    have hb2 := below_call hb0 hal
    clear hb0 hal kb kr
    have kq2 := Blk.cell kb2
    have kqf2 := Blk.frozen kb2
    refine wp_region_held_drew (S := fun _ => True) (by kernel_rfl) ?_ (fun hHeld0 => ?_)
    · try dsimp only
      try exact trivial
    refine wpAnyH_take (i := 3) (oi := { dst := some 106, op := Go.Op.move (Go.Operand.tmp 2), type := 3, pos := "law.go:34", after := #[], guard := none }) (v := .int .i64 x) rfl (by kernel_rfl) (by kernel_rfl) (by kernel_rfl) (fun _ _ _ h => h) (Or.inl ⟨by rfl, ?_⟩) (by assumption) ?_
    · (intro W hSw; (try dsimp only at hSw); go_simp; try with_reducible rfl)
    try simp only [Act.put, List.setIfInBounds_toArray, List.set_cons_zero, List.set_cons_succ]
    refine wpAnyH_ready (rs := [0, 4]) (by kernel_rfl) (by simp) ?_
    refine AllReadyH.cons (o := { dst := some 103, op := Go.Op.makeSlice 33 (Go.Operand.const (Go.Value.int Go.IntKind.i64 201)) (Go.Operand.const (Go.Value.int Go.IntKind.i64 201)), type := 33, pos := "law.go:34", after := #[], guard := none }) rfl (fun K hK => ?_) ?_
    · go_simp
      refine hK.out _ _ ?_ (fun hHeld1 => ?_)
      · try dsimp only
        try exact trivial
      clear hK K hHeld0
      try simp only [Act.put, List.setIfInBounds_toArray, List.set_cons_zero, List.set_cons_succ]
      refine wpAnyH_ready (rs := [1, 4]) (by kernel_rfl) (by simp) ?_
      refine AllReadyH.cons (o := { dst := some 104, op := Go.Op.convert 33 9 (Go.Operand.tmp 103), type := 9, pos := "law.go:34", after := #[{ on := 0, ground := Go.Ground.data }], guard := none }) rfl (fun K hK => ?_) ?_
      · go_simp
        refine hK.out _ _ ?_ (fun hHeld2 => ?_)
        · try dsimp only
          try exact trivial
        clear hK K hHeld1
        try simp only [Act.put, List.setIfInBounds_toArray, List.set_cons_zero, List.set_cons_succ]
        refine wpAnyH_take (i := 2) (oi := { dst := some 105, op := Go.Op.build 65 #[(0, Go.Operand.const (Go.Value.string { data := #[] })), (1, Go.Operand.const (Go.Value.string { data := #[110] })), (2, Go.Operand.tmp 104)], type := 65, pos := "law.go:34", after := #[{ on := 1, ground := Go.Ground.data }], guard := none }) (v := .agg #[.string ⟨#[]⟩, .string ⟨#[110]⟩, .string s]) rfl (by kernel_rfl) (by kernel_rfl) (by kernel_rfl) (fun _ _ _ h => h) (Or.inl ⟨by rfl, ?_⟩) (by assumption) ?_
        · (intro W hSw; (try dsimp only at hSw); go_simp; try with_reducible rfl)
        try simp only [Act.put, List.setIfInBounds_toArray, List.set_cons_zero, List.set_cons_succ]
        refine wpAnyH_ready (rs := [4]) (by kernel_rfl) (by simp) ?_
        refine AllReadyH.cons (o := { dst := some 107, op := Go.Op.call { callee := Go.Callee.value (Go.Operand.func 17), args := #[Go.Operand.tmp 106, Go.Operand.const (Go.Value.int Go.IntKind.i64 3)], argTypes := #[3, 3] }, type := 3, pos := "law.go:34", after := #[{ on := 3, ground := Go.Ground.data }], guard := none }) rfl (fun K hK => ?_) ?_
        · go_simp
          (go_at_call 17; refine (HR.out _).mono ?_; rintro e wn ⟨rfl, hwn⟩; obtain rfl := hwn.symm; clear hwn)
          try go_wp2_with fail
          refine hK.out _ _ ?_ (fun hHeld3 => ?_)
          · try dsimp only
            try exact trivial
          clear hK K hHeld2
          try simp only [Act.put, List.setIfInBounds_toArray, List.set_cons_zero, List.set_cons_succ]
          refine wpAnyH_take (i := 5) (oi := { dst := some 108, op := Go.Op.index 65 (Go.Operand.tmp 105) (Go.Operand.tmp 107), type := 9, pos := "law.go:34", after := #[{ on := 2, ground := Go.Ground.data }, { on := 4, ground := Go.Ground.data }], guard := none }) (v := .string v) rfl (by kernel_rfl) (by kernel_rfl) (by kernel_rfl) (fun _ _ _ h => h) (Or.inl ⟨by rfl, ?_⟩) (by assumption) ?_
          · (intro W hSw; (try dsimp only at hSw); go_simp; try with_reducible rfl)
          try simp only [Act.put, List.setIfInBounds_toArray, List.set_cons_zero, List.set_cons_succ]
          refine wpAnyH_take (i := 6) (oi := { dst := some 109, op := Go.Op.fieldAddr 31 (Go.Operand.tmp 3) 2, type := 0, pos := "law.go:34", after := #[{ on := 0, ground := Go.Ground.phase }, { on := 1, ground := Go.Ground.phase }, { on := 2, ground := Go.Ground.phase }, { on := 3, ground := Go.Ground.phase }, { on := 4, ground := Go.Ground.phase }, { on := 5, ground := Go.Ground.phase }], guard := none }) (v := .pointer (some ⟨w.heap.size, 2, none⟩)) rfl (by kernel_rfl) (by kernel_rfl) (by kernel_rfl) (fun _ _ _ h => h) (Or.inl ⟨by rfl, ?_⟩) (by assumption) ?_
          · (intro W hSw; (try dsimp only at hSw); go_simp; try with_reducible rfl)
          try simp only [Act.put, List.setIfInBounds_toArray, List.set_cons_zero, List.set_cons_succ]
          refine wpAnyH_ready (rs := [7]) (by kernel_rfl) (by simp) ?_
          refine AllReadyH.cons (o := { dst := none, op := Go.Op.store 9 (Go.Operand.tmp 109) (Go.Operand.tmp 108), type := 0, pos := "law.go:34", after := #[{ on := 6, ground := Go.Ground.data }, { on := 5, ground := Go.Ground.data }, { on := 4, ground := Go.Ground.chain }, { on := 0, ground := Go.Ground.phase }, { on := 1, ground := Go.Ground.phase }, { on := 2, ground := Go.Ground.phase }, { on := 3, ground := Go.Ground.phase }, { on := 4, ground := Go.Ground.phase }, { on := 5, ground := Go.Ground.phase }], guard := none }) rfl (fun K hK => ?_) ?_
          · go_simp
            refine hK.out _ _ ?_ (fun hHeld4 => ?_)
            · try dsimp only
              try exact trivial
            clear hK K hHeld3
            try simp only [Act.put, List.setIfInBounds_toArray, List.set_cons_zero, List.set_cons_succ]
            refine wpAnyH_done (by kernel_rfl) ?_ _
            have kw2 : ((y0.alloc (.cells (madeCells #[.int .u8 0] 201) 5)).setCell ⟨w.heap.size, 2, none⟩ (.string v)).heap[w.heap.size]? = some (.cells #[.int .i64 kd, .string us, .string v, .int .i64 ts, .string tn, .int .i64 os, .string on, .string tx, .int .i64 z, .slice A n cp] 31 (0, 0)) := heap_set_near _ _ _ _ _ _ kb2
            have hbsx1 : Below w.heap.size w ((y0.alloc (.cells (madeCells #[.int .u8 0] 201) 5)).setCell ⟨w.heap.size, 2, none⟩ (.string v)) := (hb2.setCell (Nat.le_refl _) (.string v))
            have kbs1 : ((y0.alloc (.cells (madeCells #[.int .u8 0] 201) 5)).setCell ⟨w.heap.size, 2, none⟩ (.string v)).drew.heap[w.heap.size]? = _ := kw2
            have krs1 : ((y0.alloc (.cells (madeCells #[.int .u8 0] 201) 5)).setCell ⟨w.heap.size, 2, none⟩ (.string v)).drew.heap[w.heap.size + 1]? = _ := ((heap_set_far _ _ _ _ _ hne.symm).trans kr2)
            have hbs1 : Below w.heap.size w ((y0.alloc (.cells (madeCells #[.int .u8 0] 201) 5)).setCell ⟨w.heap.size, 2, none⟩ (.string v)).drew := below_drw hbsx1
            clear hbsx1
            clear kb2 kr2 hb2 kw2
            go_upto_region 24 with fail
            clear kq2 kqf2
            clear kq kqf
            generalize ((y0.alloc (.cells (madeCells #[.int .u8 0] 201) 5)).setCell ⟨w.heap.size, 2, none⟩ (.string v)).drew = y1 at *
            have kcb := Blk.cell kbs1
            have kfr := Blk.frozen krs1
            have kcr0 := Blk.cell krs1
            have kcz := Blk.cell (ten_kz krs1 (.int .i64 kd) (.string us) (.string v) (.int .i64 ts) (.string tn) (.int .i64 os) (.string on) (.string tx) (.int .i64 z) (.slice A n cp))
            have HBF := Lib.hid (below_ten hbs1 (Nat.le_succ _) (.int .i64 kd) (.string us) (.string v) (.int .i64 ts) (.string tn) (.int .i64 os) (.string on) (.string tx) (.int .i64 z) (.slice A n cp))
            clear kbs1 krs1 hbs1
            go_wp2_with fail
            refine bodyPost_ret (v := .agg #[.int .i64 kd, .string us, .string v, .int .i64 ts, .string tn, .int .i64 os, .string on, .string tx, .int .i64 z, .slice A n cp]) ?_ rfl ⟨⟨kd, us, v, ts, tn, os, on, tx, z, hs⟩, A, n, cp, rfl, RdV.below HRD.out HBF.out, HTY.out.below HBF.out, ⟨HWF.out.kd, HWF.out.us, HW0.out, HWF.out.ts, HWF.out.tn, HWF.out.os, HWF.out.on, HWF.out.tx, HWF.out.n, HWF.out.hs⟩, HBF.out, HC.out⟩
            simp [results, Tryd.results12, go_sem, kcz]
          exact AllReadyH.nil
        exact AllReadyH.nil
      refine AllReadyH.cons (o := { dst := some 107, op := Go.Op.call { callee := Go.Callee.value (Go.Operand.func 17), args := #[Go.Operand.tmp 106, Go.Operand.const (Go.Value.int Go.IntKind.i64 3)], argTypes := #[3, 3] }, type := 3, pos := "law.go:34", after := #[{ on := 3, ground := Go.Ground.data }], guard := none }) rfl (fun K hK => ?_) ?_
      · go_simp
        (go_at_call 17; refine (HR.out _).mono ?_; rintro e wn ⟨rfl, hwn⟩; obtain rfl := hwn.symm; clear hwn)
        try go_wp2_with fail
        refine hK.out _ _ ?_ (fun hHeld2 => ?_)
        · try dsimp only
          try exact trivial
        clear hK K hHeld1
        try simp only [Act.put, List.setIfInBounds_toArray, List.set_cons_zero, List.set_cons_succ]
        refine wpAnyH_ready (rs := [1]) (by kernel_rfl) (by simp) ?_
        refine AllReadyH.cons (o := { dst := some 104, op := Go.Op.convert 33 9 (Go.Operand.tmp 103), type := 9, pos := "law.go:34", after := #[{ on := 0, ground := Go.Ground.data }], guard := none }) rfl (fun K hK => ?_) ?_
        · go_simp
          refine hK.out _ _ ?_ (fun hHeld3 => ?_)
          · try dsimp only
            try exact trivial
          clear hK K hHeld2
          try simp only [Act.put, List.setIfInBounds_toArray, List.set_cons_zero, List.set_cons_succ]
          refine wpAnyH_take (i := 2) (oi := { dst := some 105, op := Go.Op.build 65 #[(0, Go.Operand.const (Go.Value.string { data := #[] })), (1, Go.Operand.const (Go.Value.string { data := #[110] })), (2, Go.Operand.tmp 104)], type := 65, pos := "law.go:34", after := #[{ on := 1, ground := Go.Ground.data }], guard := none }) (v := .agg #[.string ⟨#[]⟩, .string ⟨#[110]⟩, .string s]) rfl (by kernel_rfl) (by kernel_rfl) (by kernel_rfl) (fun _ _ _ h => h) (Or.inl ⟨by rfl, ?_⟩) (by assumption) ?_
          · (intro W hSw; (try dsimp only at hSw); go_simp; try with_reducible rfl)
          try simp only [Act.put, List.setIfInBounds_toArray, List.set_cons_zero, List.set_cons_succ]
          refine wpAnyH_take (i := 5) (oi := { dst := some 108, op := Go.Op.index 65 (Go.Operand.tmp 105) (Go.Operand.tmp 107), type := 9, pos := "law.go:34", after := #[{ on := 2, ground := Go.Ground.data }, { on := 4, ground := Go.Ground.data }], guard := none }) (v := .string v) rfl (by kernel_rfl) (by kernel_rfl) (by kernel_rfl) (fun _ _ _ h => h) (Or.inl ⟨by rfl, ?_⟩) (by assumption) ?_
          · (intro W hSw; (try dsimp only at hSw); go_simp; try with_reducible rfl)
          try simp only [Act.put, List.setIfInBounds_toArray, List.set_cons_zero, List.set_cons_succ]
          refine wpAnyH_take (i := 6) (oi := { dst := some 109, op := Go.Op.fieldAddr 31 (Go.Operand.tmp 3) 2, type := 0, pos := "law.go:34", after := #[{ on := 0, ground := Go.Ground.phase }, { on := 1, ground := Go.Ground.phase }, { on := 2, ground := Go.Ground.phase }, { on := 3, ground := Go.Ground.phase }, { on := 4, ground := Go.Ground.phase }, { on := 5, ground := Go.Ground.phase }], guard := none }) (v := .pointer (some ⟨w.heap.size, 2, none⟩)) rfl (by kernel_rfl) (by kernel_rfl) (by kernel_rfl) (fun _ _ _ h => h) (Or.inl ⟨by rfl, ?_⟩) (by assumption) ?_
          · (intro W hSw; (try dsimp only at hSw); go_simp; try with_reducible rfl)
          try simp only [Act.put, List.setIfInBounds_toArray, List.set_cons_zero, List.set_cons_succ]
          refine wpAnyH_ready (rs := [7]) (by kernel_rfl) (by simp) ?_
          refine AllReadyH.cons (o := { dst := none, op := Go.Op.store 9 (Go.Operand.tmp 109) (Go.Operand.tmp 108), type := 0, pos := "law.go:34", after := #[{ on := 6, ground := Go.Ground.data }, { on := 5, ground := Go.Ground.data }, { on := 4, ground := Go.Ground.chain }, { on := 0, ground := Go.Ground.phase }, { on := 1, ground := Go.Ground.phase }, { on := 2, ground := Go.Ground.phase }, { on := 3, ground := Go.Ground.phase }, { on := 4, ground := Go.Ground.phase }, { on := 5, ground := Go.Ground.phase }], guard := none }) rfl (fun K hK => ?_) ?_
          · go_simp
            refine hK.out _ _ ?_ (fun hHeld4 => ?_)
            · try dsimp only
              try exact trivial
            clear hK K hHeld3
            try simp only [Act.put, List.setIfInBounds_toArray, List.set_cons_zero, List.set_cons_succ]
            refine wpAnyH_done (by kernel_rfl) ?_ _
            have kw2 : ((y0.alloc (.cells (madeCells #[.int .u8 0] 201) 5)).setCell ⟨w.heap.size, 2, none⟩ (.string v)).heap[w.heap.size]? = some (.cells #[.int .i64 kd, .string us, .string v, .int .i64 ts, .string tn, .int .i64 os, .string on, .string tx, .int .i64 z, .slice A n cp] 31 (0, 0)) := heap_set_near _ _ _ _ _ _ kb2
            have hbsx1 : Below w.heap.size w ((y0.alloc (.cells (madeCells #[.int .u8 0] 201) 5)).setCell ⟨w.heap.size, 2, none⟩ (.string v)) := (hb2.setCell (Nat.le_refl _) (.string v))
            have kbs1 : ((y0.alloc (.cells (madeCells #[.int .u8 0] 201) 5)).setCell ⟨w.heap.size, 2, none⟩ (.string v)).drew.heap[w.heap.size]? = _ := kw2
            have krs1 : ((y0.alloc (.cells (madeCells #[.int .u8 0] 201) 5)).setCell ⟨w.heap.size, 2, none⟩ (.string v)).drew.heap[w.heap.size + 1]? = _ := ((heap_set_far _ _ _ _ _ hne.symm).trans kr2)
            have hbs1 : Below w.heap.size w ((y0.alloc (.cells (madeCells #[.int .u8 0] 201) 5)).setCell ⟨w.heap.size, 2, none⟩ (.string v)).drew := below_drw hbsx1
            clear hbsx1
            clear kb2 kr2 hb2 kw2
            go_upto_region 24 with fail
            clear kq2 kqf2
            clear kq kqf
            generalize ((y0.alloc (.cells (madeCells #[.int .u8 0] 201) 5)).setCell ⟨w.heap.size, 2, none⟩ (.string v)).drew = y1 at *
            have kcb := Blk.cell kbs1
            have kfr := Blk.frozen krs1
            have kcr0 := Blk.cell krs1
            have kcz := Blk.cell (ten_kz krs1 (.int .i64 kd) (.string us) (.string v) (.int .i64 ts) (.string tn) (.int .i64 os) (.string on) (.string tx) (.int .i64 z) (.slice A n cp))
            have HBF := Lib.hid (below_ten hbs1 (Nat.le_succ _) (.int .i64 kd) (.string us) (.string v) (.int .i64 ts) (.string tn) (.int .i64 os) (.string on) (.string tx) (.int .i64 z) (.slice A n cp))
            clear kbs1 krs1 hbs1
            go_wp2_with fail
            refine bodyPost_ret (v := .agg #[.int .i64 kd, .string us, .string v, .int .i64 ts, .string tn, .int .i64 os, .string on, .string tx, .int .i64 z, .slice A n cp]) ?_ rfl ⟨⟨kd, us, v, ts, tn, os, on, tx, z, hs⟩, A, n, cp, rfl, RdV.below HRD.out HBF.out, HTY.out.below HBF.out, ⟨HWF.out.kd, HWF.out.us, HW0.out, HWF.out.ts, HWF.out.tn, HWF.out.os, HWF.out.on, HWF.out.tx, HWF.out.n, HWF.out.hs⟩, HBF.out, HC.out⟩
            simp [results, Tryd.results12, go_sem, kcz]
          exact AllReadyH.nil
        exact AllReadyH.nil
      exact AllReadyH.nil
    refine AllReadyH.cons (o := { dst := some 107, op := Go.Op.call { callee := Go.Callee.value (Go.Operand.func 17), args := #[Go.Operand.tmp 106, Go.Operand.const (Go.Value.int Go.IntKind.i64 3)], argTypes := #[3, 3] }, type := 3, pos := "law.go:34", after := #[{ on := 3, ground := Go.Ground.data }], guard := none }) rfl (fun K hK => ?_) ?_
    · go_simp
      (go_at_call 17; refine (HR.out _).mono ?_; rintro e wn ⟨rfl, hwn⟩; obtain rfl := hwn.symm; clear hwn)
      try go_wp2_with fail
      refine hK.out _ _ ?_ (fun hHeld1 => ?_)
      · try dsimp only
        try exact trivial
      clear hK K hHeld0
      try simp only [Act.put, List.setIfInBounds_toArray, List.set_cons_zero, List.set_cons_succ]
      refine wpAnyH_ready (rs := [0]) (by kernel_rfl) (by simp) ?_
      refine AllReadyH.cons (o := { dst := some 103, op := Go.Op.makeSlice 33 (Go.Operand.const (Go.Value.int Go.IntKind.i64 201)) (Go.Operand.const (Go.Value.int Go.IntKind.i64 201)), type := 33, pos := "law.go:34", after := #[], guard := none }) rfl (fun K hK => ?_) ?_
      · go_simp
        refine hK.out _ _ ?_ (fun hHeld2 => ?_)
        · try dsimp only
          try exact trivial
        clear hK K hHeld1
        try simp only [Act.put, List.setIfInBounds_toArray, List.set_cons_zero, List.set_cons_succ]
        refine wpAnyH_ready (rs := [1]) (by kernel_rfl) (by simp) ?_
        refine AllReadyH.cons (o := { dst := some 104, op := Go.Op.convert 33 9 (Go.Operand.tmp 103), type := 9, pos := "law.go:34", after := #[{ on := 0, ground := Go.Ground.data }], guard := none }) rfl (fun K hK => ?_) ?_
        · go_simp
          refine hK.out _ _ ?_ (fun hHeld3 => ?_)
          · try dsimp only
            try exact trivial
          clear hK K hHeld2
          try simp only [Act.put, List.setIfInBounds_toArray, List.set_cons_zero, List.set_cons_succ]
          refine wpAnyH_take (i := 2) (oi := { dst := some 105, op := Go.Op.build 65 #[(0, Go.Operand.const (Go.Value.string { data := #[] })), (1, Go.Operand.const (Go.Value.string { data := #[110] })), (2, Go.Operand.tmp 104)], type := 65, pos := "law.go:34", after := #[{ on := 1, ground := Go.Ground.data }], guard := none }) (v := .agg #[.string ⟨#[]⟩, .string ⟨#[110]⟩, .string s]) rfl (by kernel_rfl) (by kernel_rfl) (by kernel_rfl) (fun _ _ _ h => h) (Or.inl ⟨by rfl, ?_⟩) (by assumption) ?_
          · (intro W hSw; (try dsimp only at hSw); go_simp; try with_reducible rfl)
          try simp only [Act.put, List.setIfInBounds_toArray, List.set_cons_zero, List.set_cons_succ]
          refine wpAnyH_take (i := 5) (oi := { dst := some 108, op := Go.Op.index 65 (Go.Operand.tmp 105) (Go.Operand.tmp 107), type := 9, pos := "law.go:34", after := #[{ on := 2, ground := Go.Ground.data }, { on := 4, ground := Go.Ground.data }], guard := none }) (v := .string v) rfl (by kernel_rfl) (by kernel_rfl) (by kernel_rfl) (fun _ _ _ h => h) (Or.inl ⟨by rfl, ?_⟩) (by assumption) ?_
          · (intro W hSw; (try dsimp only at hSw); go_simp; try with_reducible rfl)
          try simp only [Act.put, List.setIfInBounds_toArray, List.set_cons_zero, List.set_cons_succ]
          refine wpAnyH_take (i := 6) (oi := { dst := some 109, op := Go.Op.fieldAddr 31 (Go.Operand.tmp 3) 2, type := 0, pos := "law.go:34", after := #[{ on := 0, ground := Go.Ground.phase }, { on := 1, ground := Go.Ground.phase }, { on := 2, ground := Go.Ground.phase }, { on := 3, ground := Go.Ground.phase }, { on := 4, ground := Go.Ground.phase }, { on := 5, ground := Go.Ground.phase }], guard := none }) (v := .pointer (some ⟨w.heap.size, 2, none⟩)) rfl (by kernel_rfl) (by kernel_rfl) (by kernel_rfl) (fun _ _ _ h => h) (Or.inl ⟨by rfl, ?_⟩) (by assumption) ?_
          · (intro W hSw; (try dsimp only at hSw); go_simp; try with_reducible rfl)
          try simp only [Act.put, List.setIfInBounds_toArray, List.set_cons_zero, List.set_cons_succ]
          refine wpAnyH_ready (rs := [7]) (by kernel_rfl) (by simp) ?_
          refine AllReadyH.cons (o := { dst := none, op := Go.Op.store 9 (Go.Operand.tmp 109) (Go.Operand.tmp 108), type := 0, pos := "law.go:34", after := #[{ on := 6, ground := Go.Ground.data }, { on := 5, ground := Go.Ground.data }, { on := 4, ground := Go.Ground.chain }, { on := 0, ground := Go.Ground.phase }, { on := 1, ground := Go.Ground.phase }, { on := 2, ground := Go.Ground.phase }, { on := 3, ground := Go.Ground.phase }, { on := 4, ground := Go.Ground.phase }, { on := 5, ground := Go.Ground.phase }], guard := none }) rfl (fun K hK => ?_) ?_
          · go_simp
            refine hK.out _ _ ?_ (fun hHeld4 => ?_)
            · try dsimp only
              try exact trivial
            clear hK K hHeld3
            try simp only [Act.put, List.setIfInBounds_toArray, List.set_cons_zero, List.set_cons_succ]
            refine wpAnyH_done (by kernel_rfl) ?_ _
            have kw2 : ((y0.alloc (.cells (madeCells #[.int .u8 0] 201) 5)).setCell ⟨w.heap.size, 2, none⟩ (.string v)).heap[w.heap.size]? = some (.cells #[.int .i64 kd, .string us, .string v, .int .i64 ts, .string tn, .int .i64 os, .string on, .string tx, .int .i64 z, .slice A n cp] 31 (0, 0)) := heap_set_near _ _ _ _ _ _ kb2
            have hbsx1 : Below w.heap.size w ((y0.alloc (.cells (madeCells #[.int .u8 0] 201) 5)).setCell ⟨w.heap.size, 2, none⟩ (.string v)) := (hb2.setCell (Nat.le_refl _) (.string v))
            have kbs1 : ((y0.alloc (.cells (madeCells #[.int .u8 0] 201) 5)).setCell ⟨w.heap.size, 2, none⟩ (.string v)).drew.heap[w.heap.size]? = _ := kw2
            have krs1 : ((y0.alloc (.cells (madeCells #[.int .u8 0] 201) 5)).setCell ⟨w.heap.size, 2, none⟩ (.string v)).drew.heap[w.heap.size + 1]? = _ := ((heap_set_far _ _ _ _ _ hne.symm).trans kr2)
            have hbs1 : Below w.heap.size w ((y0.alloc (.cells (madeCells #[.int .u8 0] 201) 5)).setCell ⟨w.heap.size, 2, none⟩ (.string v)).drew := below_drw hbsx1
            clear hbsx1
            clear kb2 kr2 hb2 kw2
            go_upto_region 24 with fail
            clear kq2 kqf2
            clear kq kqf
            generalize ((y0.alloc (.cells (madeCells #[.int .u8 0] 201) 5)).setCell ⟨w.heap.size, 2, none⟩ (.string v)).drew = y1 at *
            have kcb := Blk.cell kbs1
            have kfr := Blk.frozen krs1
            have kcr0 := Blk.cell krs1
            have kcz := Blk.cell (ten_kz krs1 (.int .i64 kd) (.string us) (.string v) (.int .i64 ts) (.string tn) (.int .i64 os) (.string on) (.string tx) (.int .i64 z) (.slice A n cp))
            have HBF := Lib.hid (below_ten hbs1 (Nat.le_succ _) (.int .i64 kd) (.string us) (.string v) (.int .i64 ts) (.string tn) (.int .i64 os) (.string on) (.string tx) (.int .i64 z) (.slice A n cp))
            clear kbs1 krs1 hbs1
            go_wp2_with fail
            refine bodyPost_ret (v := .agg #[.int .i64 kd, .string us, .string v, .int .i64 ts, .string tn, .int .i64 os, .string on, .string tx, .int .i64 z, .slice A n cp]) ?_ rfl ⟨⟨kd, us, v, ts, tn, os, on, tx, z, hs⟩, A, n, cp, rfl, RdV.below HRD.out HBF.out, HTY.out.below HBF.out, ⟨HWF.out.kd, HWF.out.us, HW0.out, HWF.out.ts, HWF.out.tn, HWF.out.os, HWF.out.on, HWF.out.tx, HWF.out.n, HWF.out.hs⟩, HBF.out, HC.out⟩
            simp [results, Tryd.results12, go_sem, kcz]
          exact AllReadyH.nil
        exact AllReadyH.nil
      exact AllReadyH.nil
    exact AllReadyH.nil
  · replace HC : Hid ((⟨kd, us, nt, ts, tn, os, on, tx, z, hs ++ [⟨(hs.length : Int) + x % 3, ⟨#[]⟩, ⟨#[]⟩, ⟨#[]⟩, IntKind.i64.wrap (x.tdiv 3) % 4 - 1, (IntKind.i64.wrap (x.tdiv 12) % 5) / 4⟩]⟩ : Cg) = C) := Lib.hid HC.out
    have kq := Blk.cell kb
    have kqf := Blk.frozen kb
    have hyz : w.heap.size + 2 ≤ y0.heap.size := Blk.lt kr
    have HRW := Lib.hid (RdW.vals (RdV.below HRD.out (below_drw hb0)))
    have HRB : Hid (∀ (v m : Int) (W : World), 0 < m → m ≤ 1000 → Calls Tryd.prog 17 #[.int .i64 v, .int .i64 m] W fun e w2 => ∃ j : Nat, e = .returned (.int .i64 (j : Int)) ∧ (j : Int) < m ∧ w2 = W ∧ Hid ((j : Int) = v % m)) := Lib.hid fun v m W h1 h2 => (round_any v m W h1 (by omega)).mono fun e w2 ⟨a1, a2⟩ => ⟨(v % m).toNat, by rw [a1, Int.toNat_of_nonneg (Int.emod_nonneg _ (by omega))], by rw [Int.toNat_of_nonneg (Int.emod_nonneg _ (by omega))]; exact Int.emod_lt_of_pos _ h1, a2, Lib.hid (Int.toNat_of_nonneg (Int.emod_nonneg _ (by omega)))⟩
    go_upto_region 23 with fail
    refine wp_region_held_drew (S := fun _ => True) (by kernel_rfl) ?_ (fun hHeld0 => ?_)
    · try dsimp only
      try exact trivial
    refine wpAnyH_take (i := 0) (oi := { dst := some 112, op := Go.Op.fieldAddr 31 (Go.Operand.tmp 3) 7, type := 0, pos := "law.go:36", after := #[], guard := none }) (v := .pointer (some ⟨w.heap.size, 9, none⟩)) rfl (by kernel_rfl) (by kernel_rfl) (by kernel_rfl) (fun _ _ _ h => h) (Or.inl ⟨by rfl, ?_⟩) (by assumption) ?_
    · (intro W hSw; (try dsimp only at hSw); go_simp; try with_reducible rfl)
    try simp only [Act.put, List.setIfInBounds_toArray, List.set_cons_zero, List.set_cons_succ]
    refine wpAnyH_take (i := 3) (oi := { dst := some 115, op := Go.Op.fieldAddr 31 (Go.Operand.tmp 3) 7, type := 0, pos := "law.go:36", after := #[], guard := none }) (v := .pointer (some ⟨w.heap.size, 9, none⟩)) rfl (by kernel_rfl) (by kernel_rfl) (by kernel_rfl) (fun _ _ _ h => h) (Or.inl ⟨by rfl, ?_⟩) (by assumption) ?_
    · (intro W hSw; (try dsimp only at hSw); go_simp; try with_reducible rfl)
    try simp only [Act.put, List.setIfInBounds_toArray, List.set_cons_zero, List.set_cons_succ]
    refine wpAnyH_take (i := 6) (oi := { dst := some 118, op := Go.Op.move (Go.Operand.tmp 2), type := 3, pos := "law.go:36", after := #[], guard := none }) (v := .int .i64 x) rfl (by kernel_rfl) (by kernel_rfl) (by kernel_rfl) (fun _ _ _ h => h) (Or.inl ⟨by rfl, ?_⟩) (by assumption) ?_
    · (intro W hSw; (try dsimp only at hSw); go_simp; try with_reducible rfl)
    try simp only [Act.put, List.setIfInBounds_toArray, List.set_cons_zero, List.set_cons_succ]
    refine wpAnyH_take (i := 9) (oi := { dst := some 121, op := Go.Op.move (Go.Operand.tmp 2), type := 3, pos := "law.go:36", after := #[], guard := none }) (v := .int .i64 x) rfl (by kernel_rfl) (by kernel_rfl) (by kernel_rfl) (fun _ _ _ h => h) (Or.inl ⟨by rfl, ?_⟩) (by assumption) ?_
    · (intro W hSw; (try dsimp only at hSw); go_simp; try with_reducible rfl)
    try simp only [Act.put, List.setIfInBounds_toArray, List.set_cons_zero, List.set_cons_succ]
    refine wpAnyH_take (i := 13) (oi := { dst := some 125, op := Go.Op.move (Go.Operand.tmp 2), type := 3, pos := "law.go:36", after := #[], guard := none }) (v := .int .i64 x) rfl (by kernel_rfl) (by kernel_rfl) (by kernel_rfl) (fun _ _ _ h => h) (Or.inl ⟨by rfl, ?_⟩) (by assumption) ?_
    · (intro W hSw; (try dsimp only at hSw); go_simp; try with_reducible rfl)
    try simp only [Act.put, List.setIfInBounds_toArray, List.set_cons_zero, List.set_cons_succ]
    refine wpAnyH_take (i := 10) (oi := { dst := some 122, op := Go.Op.binOp Go.BinOp.quo 3 (Go.Operand.tmp 121) (Go.Operand.const (Go.Value.int Go.IntKind.i64 3)) 3, type := 3, pos := "law.go:36", after := #[{ on := 9, ground := Go.Ground.data }], guard := none }) (v := ?_) rfl (by kernel_rfl) (by kernel_rfl) (by kernel_rfl) (fun _ _ _ h => h) (Or.inl ⟨by rfl, ?_⟩) (by assumption) ?_
    rotate_left
    · (intro W hSw; (try dsimp only at hSw); go_simp; try with_reducible rfl)
    try simp only [Act.put, List.setIfInBounds_toArray, List.set_cons_zero, List.set_cons_succ]
    refine wpAnyH_take (i := 14) (oi := { dst := some 126, op := Go.Op.binOp Go.BinOp.quo 3 (Go.Operand.tmp 125) (Go.Operand.const (Go.Value.int Go.IntKind.i64 12)) 3, type := 3, pos := "law.go:36", after := #[{ on := 13, ground := Go.Ground.data }], guard := none }) (v := ?_) rfl (by kernel_rfl) (by kernel_rfl) (by kernel_rfl) (fun _ _ _ h => h) (Or.inl ⟨by rfl, ?_⟩) (by assumption) ?_
    rotate_left
    · (intro W hSw; (try dsimp only at hSw); go_simp; try with_reducible rfl)
    try simp only [Act.put, List.setIfInBounds_toArray, List.set_cons_zero, List.set_cons_succ]
    refine wpAnyH_ready (rs := [1, 4]) (by kernel_rfl) (by simp) ?_
    refine AllReadyH.cons (o := { dst := some 113, op := Go.Op.load 29 (Go.Operand.tmp 112), type := 29, pos := "law.go:36", after := #[{ on := 0, ground := Go.Ground.data }], guard := none }) rfl (fun K hK => ?_) ?_
    · go_simp
      refine hK.out _ _ ?_ (fun hHeld1 => ?_)
      · try dsimp only
        try exact trivial
      clear hK K hHeld0
      try simp only [Act.put, List.setIfInBounds_toArray, List.set_cons_zero, List.set_cons_succ]
      refine wpAnyH_ready (rs := [2, 4]) (by kernel_rfl) (by simp) ?_
      refine AllReadyH.cons (o := { dst := some 114, op := Go.Op.call { callee := Go.Callee.builtin Go.Builtin.append, args := #[Go.Operand.const (Go.Value.slice none 0 0), Go.Operand.tmp 113], argTypes := #[29, 29] }, type := 29, pos := "law.go:36", after := #[{ on := 1, ground := Go.Ground.data }], guard := none }) rfl (fun K hK => ?_) ?_
      · (refine step_append_r _ rfl (.const (.slice none 0 0)) (.tmp 113) 29 rfl 6 72 (w.heap.size + 2) 67 i0 _ RV.stay (by decide) Tryd.underlying29 hi0 hz0 hz1 hz2 rfl (by omega) none 0 0 [] rfl (OwR.nil _ _ _ _ _) A n cp rfl hs (rcells hs) HRW.out (fits_rcells _ _) HLN.out (rcells_one _) ?_ ?_ ?_ ?_; (focus (unfold maxLen; omega)); (focus omega); (focus exact hyz); intro A1 c1 w1 ho1 hg1; rw [Nat.zero_add, List.nil_append] at ho1; rw [Nat.zero_add]; have kb1 : w1.heap[w.heap.size]? = _ := (hg1.b.block w.heap.size (by omega)).trans kb; have kr1 : w1.heap[w.heap.size + 1]? = _ := (hg1.b.block (w.heap.size + 1) (by omega)).trans kr; have hb1 : Below w.heap.size w w1 := (below_drw hb0).trans (hg1.b.mono (by omega)); have kq1 := Blk.cell kb1; have hsz1 : w.heap.size + 2 ≤ w1.heap.size := Nat.le_trans hyz hg1.b.size)
        refine hK.out _ _ ?_ (fun hHeld2 => ?_)
        · try dsimp only
          try exact trivial
        clear hK K hHeld1
        try simp only [Act.put, List.setIfInBounds_toArray, List.set_cons_zero, List.set_cons_succ]
        refine wpAnyH_ready (rs := [4, 7]) (by kernel_rfl) (by simp) ?_
        refine AllReadyH.cons (o := { dst := some 116, op := Go.Op.load 29 (Go.Operand.tmp 115), type := 29, pos := "law.go:36", after := #[{ on := 3, ground := Go.Ground.data }], guard := none }) rfl (fun K hK => ?_) ?_
        · go_simp
          refine hK.out _ _ ?_ (fun hHeld3 => ?_)
          · try dsimp only
            try exact trivial
          clear hK K hHeld2
          try simp only [Act.put, List.setIfInBounds_toArray, List.set_cons_zero, List.set_cons_succ]
          refine wpAnyH_take (i := 5) (oi := { dst := some 117, op := Go.Op.call { callee := Go.Callee.builtin Go.Builtin.len, args := #[Go.Operand.tmp 116], argTypes := #[29] }, type := 3, pos := "law.go:36", after := #[{ on := 4, ground := Go.Ground.data }], guard := none }) (v := .int .i64 (n : Int)) rfl (by kernel_rfl) (by kernel_rfl) (by kernel_rfl) (fun _ _ _ h => h) (Or.inl ⟨by rfl, ?_⟩) (by assumption) ?_
          · (intro W hSw; (try dsimp only at hSw); go_simp; try with_reducible rfl)
          try simp only [Act.put, List.setIfInBounds_toArray, List.set_cons_zero, List.set_cons_succ]
          refine wpAnyH_ready (rs := [7]) (by kernel_rfl) (by simp) ?_
          refine AllReadyH.cons (o := { dst := some 119, op := Go.Op.call { callee := Go.Callee.value (Go.Operand.func 17), args := #[Go.Operand.tmp 118, Go.Operand.const (Go.Value.int Go.IntKind.i64 3)], argTypes := #[3, 3] }, type := 3, pos := "law.go:36", after := #[{ on := 6, ground := Go.Ground.data }, { on := 2, ground := Go.Ground.chain }], guard := none }) rfl (fun K hK => ?_) ?_
          · go_simp
            (go_at_call 17; refine (HRB.out _ 3 _ (by omega) (by omega)).mono ?_; rintro e wn ⟨j1, rfl, j1b, hwn, j1e⟩; obtain rfl := hwn.symm; clear hwn; have hx1 : IntKind.i64.wrap ((n : Int) + (j1 : Int)) = (n : Int) + (j1 : Int) := by rw [IntKind.wrap_i64]; omega)
            try go_wp2_with fail
            refine hK.out _ _ ?_ (fun hHeld4 => ?_)
            · try dsimp only
              try exact trivial
            clear hK K hHeld3
            try simp only [Act.put, List.setIfInBounds_toArray, List.set_cons_zero, List.set_cons_succ]
            refine wpAnyH_take (i := 8) (oi := { dst := some 120, op := Go.Op.binOp Go.BinOp.add 3 (Go.Operand.tmp 117) (Go.Operand.tmp 119) 3, type := 3, pos := "law.go:36", after := #[{ on := 5, ground := Go.Ground.data }, { on := 7, ground := Go.Ground.data }], guard := none }) (v := .int .i64 ((n : Int) + (j1 : Int))) rfl (by kernel_rfl) (by kernel_rfl) (by kernel_rfl) (fun _ _ _ h => h) (Or.inl ⟨by rfl, ?_⟩) (by assumption) ?_
            · (intro W hSw; (try dsimp only at hSw); go_simp; try with_reducible rfl)
            try simp only [Act.put, List.setIfInBounds_toArray, List.set_cons_zero, List.set_cons_succ]
            refine wpAnyH_ready (rs := [11]) (by kernel_rfl) (by simp) ?_
            refine AllReadyH.cons (o := { dst := some 123, op := Go.Op.call { callee := Go.Callee.value (Go.Operand.func 17), args := #[Go.Operand.tmp 122, Go.Operand.const (Go.Value.int Go.IntKind.i64 4)], argTypes := #[3, 3] }, type := 3, pos := "law.go:36", after := #[{ on := 10, ground := Go.Ground.data }, { on := 7, ground := Go.Ground.chain }], guard := none }) rfl (fun K hK => ?_) ?_
            · go_simp
              (go_at_call 17; refine (HRB.out _ 4 _ (by omega) (by omega)).mono ?_; rintro e wn ⟨j2, rfl, j2b, hwn, j2e⟩; obtain rfl := hwn.symm; clear hwn; have hx2 : IntKind.i64.wrap ((j2 : Int) - 1) = (j2 : Int) - 1 := by rw [IntKind.wrap_i64]; omega)
              try go_wp2_with fail
              refine hK.out _ _ ?_ (fun hHeld5 => ?_)
              · try dsimp only
                try exact trivial
              clear hK K hHeld4
              try simp only [Act.put, List.setIfInBounds_toArray, List.set_cons_zero, List.set_cons_succ]
              refine wpAnyH_take (i := 12) (oi := { dst := some 124, op := Go.Op.binOp Go.BinOp.sub 3 (Go.Operand.tmp 123) (Go.Operand.const (Go.Value.int Go.IntKind.i64 1)) 3, type := 3, pos := "law.go:36", after := #[{ on := 11, ground := Go.Ground.data }], guard := none }) (v := .int .i64 ((j2 : Int) - 1)) rfl (by kernel_rfl) (by kernel_rfl) (by kernel_rfl) (fun _ _ _ h => h) (Or.inl ⟨by rfl, ?_⟩) (by assumption) ?_
              · (intro W hSw; (try dsimp only at hSw); go_simp; try with_reducible rfl)
              try simp only [Act.put, List.setIfInBounds_toArray, List.set_cons_zero, List.set_cons_succ]
              refine wpAnyH_ready (rs := [15]) (by kernel_rfl) (by simp) ?_
              refine AllReadyH.cons (o := { dst := some 127, op := Go.Op.call { callee := Go.Callee.value (Go.Operand.func 17), args := #[Go.Operand.tmp 126, Go.Operand.const (Go.Value.int Go.IntKind.i64 5)], argTypes := #[3, 3] }, type := 3, pos := "law.go:36", after := #[{ on := 14, ground := Go.Ground.data }, { on := 11, ground := Go.Ground.chain }], guard := none }) rfl (fun K hK => ?_) ?_
              · go_simp
                (go_at_call 17; refine (HRB.out _ 5 _ (by omega) (by omega)).mono ?_; rintro e wn ⟨j3, rfl, j3b, hwn, j3e⟩; obtain rfl := hwn.symm; clear hwn; have hx3 : IntKind.i64.wrap ((j3 : Int) / 4) = (j3 : Int) / 4 := by rw [IntKind.wrap_i64]; omega)
                try go_wp2_with fail
                refine hK.out _ _ ?_ (fun hHeld6 => ?_)
                · try dsimp only
                  try exact trivial
                clear hK K hHeld5
                try simp only [Act.put, List.setIfInBounds_toArray, List.set_cons_zero, List.set_cons_succ]
                refine wpAnyH_take (i := 16) (oi := { dst := some 128, op := Go.Op.binOp Go.BinOp.quo 3 (Go.Operand.tmp 127) (Go.Operand.const (Go.Value.int Go.IntKind.i64 4)) 3, type := 3, pos := "law.go:36", after := #[{ on := 15, ground := Go.Ground.data }], guard := none }) (v := .int .i64 ((j3 : Int) / 4)) rfl (by kernel_rfl) (by kernel_rfl) (by kernel_rfl) (fun _ _ _ h => h) (Or.inl ⟨by rfl, ?_⟩) (by assumption) ?_
                · (intro W hSw; (try dsimp only at hSw); go_simp; try with_reducible rfl)
                try simp only [Act.put, List.setIfInBounds_toArray, List.set_cons_zero, List.set_cons_succ]
                refine wpAnyH_take (i := 17) (oi := { dst := some 129, op := Go.Op.build 67 #[(0, Go.Operand.tmp 120), (4, Go.Operand.tmp 124), (5, Go.Operand.tmp 128)], type := 67, pos := "law.go:36", after := #[{ on := 8, ground := Go.Ground.data }, { on := 12, ground := Go.Ground.data }, { on := 16, ground := Go.Ground.data }], guard := none }) (v := .agg #[.int .i64 ((n : Int) + (j1 : Int)), .string ⟨#[]⟩, .string ⟨#[]⟩, .string ⟨#[]⟩, .int .i64 ((j2 : Int) - 1), .int .i64 ((j3 : Int) / 4)]) rfl (by kernel_rfl) (by kernel_rfl) (by kernel_rfl) (fun _ _ _ h => h) (Or.inl ⟨by rfl, ?_⟩) (by assumption) ?_
                · (intro W hSw; (try dsimp only at hSw); go_simp; try with_reducible rfl)
                try simp only [Act.put, List.setIfInBounds_toArray, List.set_cons_zero, List.set_cons_succ]
                refine wpAnyH_ready (rs := [18]) (by kernel_rfl) (by simp) ?_
                refine AllReadyH.cons (o := { dst := some 130, op := Go.Op.buildSlice 29 1 #[(0, Go.Operand.tmp 129)], type := 29, pos := "law.go:36", after := #[{ on := 17, ground := Go.Ground.data }], guard := none }) rfl (fun K hK => ?_) ?_
                · go_simp
                  refine hK.out _ _ ?_ (fun hHeld7 => ?_)
                  · try dsimp only
                    try exact trivial
                  clear hK K hHeld6
                  try simp only [Act.put, List.setIfInBounds_toArray, List.set_cons_zero, List.set_cons_succ]
                  refine wpAnyH_ready (rs := [19]) (by kernel_rfl) (by simp) ?_
                  refine AllReadyH.cons (o := { dst := some 131, op := Go.Op.call { callee := Go.Callee.builtin Go.Builtin.append, args := #[Go.Operand.tmp 114, Go.Operand.tmp 130], argTypes := #[29, 29] }, type := 29, pos := "law.go:36", after := #[{ on := 2, ground := Go.Ground.data }, { on := 18, ground := Go.Ground.data }, { on := 15, ground := Go.Ground.chain }], guard := none }) rfl (fun K hK => ?_) ?_
                  · (refine step_append_r _ rfl (.tmp 114) (.tmp 130) 29 rfl 6 72 (w.heap.size + 2) 67 i0 _ RV.stay (by decide) Tryd.underlying29 hi0 hz0 hz1 hz2 rfl (by omega) A1 n c1 hs (by simp [Act.eval, Act.put]) (ho1.call RV.stay ((Below.refl _ _).alloc (Nat.le_refl _) _)) (some ⟨w1.heap.size, 0, none⟩) 1 1 (by simp [Act.eval, Act.put]) [⟨(n : Int) + (j1 : Int), ⟨#[]⟩, ⟨#[]⟩, ⟨#[]⟩, (j2 : Int) - 1, (j3 : Int) / 4⟩] _ (Reads.litAt (cs := #[.int .i64 ((n : Int) + (j1 : Int)), .string ⟨#[]⟩, .string ⟨#[]⟩, .string ⟨#[]⟩, .int .i64 ((j2 : Int) - 1), .int .i64 ((j3 : Int) / 4)]) rfl rfl) (rv_lit ⟨(n : Int) + (j1 : Int), ⟨#[]⟩, ⟨#[]⟩, ⟨#[]⟩, (j2 : Int) - 1, (j3 : Int) / 4⟩) rfl ?_ ?_ ?_ ?_ ?_; (focus (simp [Value.oneCell'])); (focus (unfold maxLen; omega)); (focus omega); (focus (rw [size_alloc_]; omega)); intro A2 c2 w2 ho2 hg2; have kb2 : w2.heap[w.heap.size]? = _ := (hg2.b.block w.heap.size (by omega)).trans (heap_old kb1); have kr2 : w2.heap[w.heap.size + 1]? = _ := (hg2.b.block (w.heap.size + 1) (by omega)).trans (heap_old kr1); have hb2 : Below w.heap.size w w2 := (hb1.alloc (by omega) _).trans (hg2.b.mono (by omega)); have kq2 := Blk.cell kb2; have kqf2 := Blk.frozen kb2)
                    refine hK.out _ _ ?_ (fun hHeld8 => ?_)
                    · try dsimp only
                      try exact trivial
                    clear hK K hHeld7
                    try simp only [Act.put, List.setIfInBounds_toArray, List.set_cons_zero, List.set_cons_succ]
                    refine wpAnyH_take (i := 20) (oi := { dst := some 132, op := Go.Op.fieldAddr 31 (Go.Operand.tmp 3) 7, type := 0, pos := "law.go:36", after := #[{ on := 0, ground := Go.Ground.phase }, { on := 1, ground := Go.Ground.phase }, { on := 2, ground := Go.Ground.phase }, { on := 3, ground := Go.Ground.phase }, { on := 4, ground := Go.Ground.phase }, { on := 5, ground := Go.Ground.phase }, { on := 6, ground := Go.Ground.phase }, { on := 7, ground := Go.Ground.phase }, { on := 8, ground := Go.Ground.phase }, { on := 9, ground := Go.Ground.phase }, { on := 10, ground := Go.Ground.phase }, { on := 11, ground := Go.Ground.phase }, { on := 12, ground := Go.Ground.phase }, { on := 13, ground := Go.Ground.phase }, { on := 14, ground := Go.Ground.phase }, { on := 15, ground := Go.Ground.phase }, { on := 16, ground := Go.Ground.phase }, { on := 17, ground := Go.Ground.phase }, { on := 18, ground := Go.Ground.phase }, { on := 19, ground := Go.Ground.phase }], guard := none }) (v := .pointer (some ⟨w.heap.size, 9, none⟩)) rfl (by kernel_rfl) (by kernel_rfl) (by kernel_rfl) (fun _ _ _ h => h) (Or.inl ⟨by rfl, ?_⟩) (by assumption) ?_
                    · (intro W hSw; (try dsimp only at hSw); go_simp; try with_reducible rfl)
                    try simp only [Act.put, List.setIfInBounds_toArray, List.set_cons_zero, List.set_cons_succ]
                    refine wpAnyH_ready (rs := [21]) (by kernel_rfl) (by simp) ?_
                    refine AllReadyH.cons (o := { dst := none, op := Go.Op.store 29 (Go.Operand.tmp 132) (Go.Operand.tmp 131), type := 0, pos := "law.go:36", after := #[{ on := 20, ground := Go.Ground.data }, { on := 19, ground := Go.Ground.data }, { on := 19, ground := Go.Ground.chain }, { on := 0, ground := Go.Ground.phase }, { on := 1, ground := Go.Ground.phase }, { on := 2, ground := Go.Ground.phase }, { on := 3, ground := Go.Ground.phase }, { on := 4, ground := Go.Ground.phase }, { on := 5, ground := Go.Ground.phase }, { on := 6, ground := Go.Ground.phase }, { on := 7, ground := Go.Ground.phase }, { on := 8, ground := Go.Ground.phase }, { on := 9, ground := Go.Ground.phase }, { on := 10, ground := Go.Ground.phase }, { on := 11, ground := Go.Ground.phase }, { on := 12, ground := Go.Ground.phase }, { on := 13, ground := Go.Ground.phase }, { on := 14, ground := Go.Ground.phase }, { on := 15, ground := Go.Ground.phase }, { on := 16, ground := Go.Ground.phase }, { on := 17, ground := Go.Ground.phase }, { on := 18, ground := Go.Ground.phase }, { on := 19, ground := Go.Ground.phase }], guard := none }) rfl (fun K hK => ?_) ?_
                    · go_simp
                      refine hK.out _ _ ?_ (fun hHeld9 => ?_)
                      · try dsimp only
                        try exact trivial
                      clear hK K hHeld8
                      try simp only [Act.put, List.setIfInBounds_toArray, List.set_cons_zero, List.set_cons_succ]
                      refine wpAnyH_done (by kernel_rfl) ?_ _
                      rw [← j1e.out, ← j2e.out, ← j3e.out, ← HLN.out] at HC
                      have HNB : Hid (A2.map (·.block) ≠ some w.heap.size ∧ A2.map (·.block) ≠ some (w.heap.size + 1)) := Lib.hid ⟨fun hh => by have := (OwV.lt ho2 _ hh).1; omega, fun hh => by have := (OwV.lt ho2 _ hh).1; omega⟩
                      have HO2 := Lib.hid (OwV.st (i := 9) (u := .slice A2 (n + 1) c2) ho2 HNB.out.1)
                      have HWA := Lib.hid (show Lit.wf (.int .i64 ((n : Int) + (j1 : Int))) = true from WalkArith.wf_i64 (by omega))
                      have HWB := Lib.hid (show Lit.wf (.int .i64 ((j2 : Int) - 1)) = true from WalkArith.wf_i64 (by omega))
                      have HWC := Lib.hid (show Lit.wf (.int .i64 ((j3 : Int) / 4)) = true from WalkArith.wf_i64 (by omega))
                      have HWR : Hid (∀ r ∈ hs ++ [(⟨(n : Int) + (j1 : Int), ⟨#[]⟩, ⟨#[]⟩, ⟨#[]⟩, (j2 : Int) - 1, (j3 : Int) / 4⟩ : Rv)], RvWf r) := Lib.hid (fun r hr => by
                        rcases List.mem_append.1 hr with h | h
                        · exact HWF.out.hs r h
                        · simp only [List.mem_singleton] at h
                          subst h
                          exact ⟨HWA.out, Nat.zero_le _, Nat.zero_le _, Nat.zero_le _, HWB.out, HWC.out⟩)
                      clear ho2
                      have kw9 : (w2.setCell ⟨w.heap.size, 9, none⟩ (.slice A2 (n + 1) c2)).heap[w.heap.size]? = some (.cells #[.int .i64 kd, .string us, .string nt, .int .i64 ts, .string tn, .int .i64 os, .string on, .string tx, .int .i64 z, .slice A2 (n + 1) c2] 31 (0, 0)) := heap_set_near _ _ _ _ _ _ kb2
                      have kbs1 : (w2.setCell ⟨w.heap.size, 9, none⟩ (.slice A2 (n + 1) c2)).heap[w.heap.size]? = _ := kw9
                      have krs1 : (w2.setCell ⟨w.heap.size, 9, none⟩ (.slice A2 (n + 1) c2)).heap[w.heap.size + 1]? = _ := ((heap_set_far _ _ _ _ _ hne.symm).trans kr2)
                      have hbs1 : Below w.heap.size w (w2.setCell ⟨w.heap.size, 9, none⟩ (.slice A2 (n + 1) c2)) := (hb2.setCell (Nat.le_refl _) (.slice A2 (n + 1) c2))
                      clear kb2 kr2 hb2 kw9
                      go_upto_region 24 with fail
                      clear kq kqf kq1 kq2 kqf2
                      generalize (w2.setCell ⟨w.heap.size, 9, none⟩ (.slice A2 (n + 1) c2)) = y1 at *
                      have kcb := Blk.cell kbs1
                      have kfr := Blk.frozen krs1
                      have kcr0 := Blk.cell krs1
                      have kcz := Blk.cell (ten_kz krs1 (.int .i64 kd) (.string us) (.string nt) (.int .i64 ts) (.string tn) (.int .i64 os) (.string on) (.string tx) (.int .i64 z) (.slice A2 (n + 1) c2))
                      have HBF := Lib.hid (below_ten hbs1 (Nat.le_succ _) (.int .i64 kd) (.string us) (.string nt) (.int .i64 ts) (.string tn) (.int .i64 os) (.string on) (.string tx) (.int .i64 z) (.slice A2 (n + 1) c2))
                      have HOF := Lib.hid (OwV.ten HO2.out HNB.out.2 (.int .i64 kd) (.string us) (.string nt) (.int .i64 ts) (.string tn) (.int .i64 os) (.string on) (.string tx) (.int .i64 z) (.slice A2 (n + 1) c2))
                      clear kbs1 krs1 hbs1
                      go_wp2_with fail
                      refine bodyPost_ret (v := .agg #[.int .i64 kd, .string us, .string nt, .int .i64 ts, .string tn, .int .i64 os, .string on, .string tx, .int .i64 z, .slice A2 (n + 1) c2]) ?_ rfl ⟨⟨kd, us, nt, ts, tn, os, on, tx, z, hs ++ [⟨(n : Int) + (j1 : Int), ⟨#[]⟩, ⟨#[]⟩, ⟨#[]⟩, (j2 : Int) - 1, (j3 : Int) / 4⟩]⟩, A2, n + 1, c2, rfl, HOF.out.rd, OwV.ty HOF.out, ⟨HWF.out.kd, HWF.out.us, HWF.out.nt, HWF.out.ts, HWF.out.tn, HWF.out.os, HWF.out.on, HWF.out.tx, HWF.out.n, HWR.out⟩, HBF.out, HC.out⟩
                      simp [results, Tryd.results12, go_sem, kcz]
                    exact AllReadyH.nil
                  exact AllReadyH.nil
                exact AllReadyH.nil
              exact AllReadyH.nil
            exact AllReadyH.nil
          exact AllReadyH.nil
        refine AllReadyH.cons (o := { dst := some 119, op := Go.Op.call { callee := Go.Callee.value (Go.Operand.func 17), args := #[Go.Operand.tmp 118, Go.Operand.const (Go.Value.int Go.IntKind.i64 3)], argTypes := #[3, 3] }, type := 3, pos := "law.go:36", after := #[{ on := 6, ground := Go.Ground.data }, { on := 2, ground := Go.Ground.chain }], guard := none }) rfl (fun K hK => ?_) ?_
        · go_simp
          (go_at_call 17; refine (HRB.out _ 3 _ (by omega) (by omega)).mono ?_; rintro e wn ⟨j1, rfl, j1b, hwn, j1e⟩; obtain rfl := hwn.symm; clear hwn; have hx1 : IntKind.i64.wrap ((n : Int) + (j1 : Int)) = (n : Int) + (j1 : Int) := by rw [IntKind.wrap_i64]; omega)
          try go_wp2_with fail
          refine hK.out _ _ ?_ (fun hHeld3 => ?_)
          · try dsimp only
            try exact trivial
          clear hK K hHeld2
          try simp only [Act.put, List.setIfInBounds_toArray, List.set_cons_zero, List.set_cons_succ]
          refine wpAnyH_ready (rs := [4, 11]) (by kernel_rfl) (by simp) ?_
          refine AllReadyH.cons (o := { dst := some 116, op := Go.Op.load 29 (Go.Operand.tmp 115), type := 29, pos := "law.go:36", after := #[{ on := 3, ground := Go.Ground.data }], guard := none }) rfl (fun K hK => ?_) ?_
          · go_simp
            refine hK.out _ _ ?_ (fun hHeld4 => ?_)
            · try dsimp only
              try exact trivial
            clear hK K hHeld3
            try simp only [Act.put, List.setIfInBounds_toArray, List.set_cons_zero, List.set_cons_succ]
            refine wpAnyH_take (i := 5) (oi := { dst := some 117, op := Go.Op.call { callee := Go.Callee.builtin Go.Builtin.len, args := #[Go.Operand.tmp 116], argTypes := #[29] }, type := 3, pos := "law.go:36", after := #[{ on := 4, ground := Go.Ground.data }], guard := none }) (v := .int .i64 (n : Int)) rfl (by kernel_rfl) (by kernel_rfl) (by kernel_rfl) (fun _ _ _ h => h) (Or.inl ⟨by rfl, ?_⟩) (by assumption) ?_
            · (intro W hSw; (try dsimp only at hSw); go_simp; try with_reducible rfl)
            try simp only [Act.put, List.setIfInBounds_toArray, List.set_cons_zero, List.set_cons_succ]
            refine wpAnyH_take (i := 8) (oi := { dst := some 120, op := Go.Op.binOp Go.BinOp.add 3 (Go.Operand.tmp 117) (Go.Operand.tmp 119) 3, type := 3, pos := "law.go:36", after := #[{ on := 5, ground := Go.Ground.data }, { on := 7, ground := Go.Ground.data }], guard := none }) (v := .int .i64 ((n : Int) + (j1 : Int))) rfl (by kernel_rfl) (by kernel_rfl) (by kernel_rfl) (fun _ _ _ h => h) (Or.inl ⟨by rfl, ?_⟩) (by assumption) ?_
            · (intro W hSw; (try dsimp only at hSw); go_simp; try with_reducible rfl)
            try simp only [Act.put, List.setIfInBounds_toArray, List.set_cons_zero, List.set_cons_succ]
            refine wpAnyH_ready (rs := [11]) (by kernel_rfl) (by simp) ?_
            refine AllReadyH.cons (o := { dst := some 123, op := Go.Op.call { callee := Go.Callee.value (Go.Operand.func 17), args := #[Go.Operand.tmp 122, Go.Operand.const (Go.Value.int Go.IntKind.i64 4)], argTypes := #[3, 3] }, type := 3, pos := "law.go:36", after := #[{ on := 10, ground := Go.Ground.data }, { on := 7, ground := Go.Ground.chain }], guard := none }) rfl (fun K hK => ?_) ?_
            · go_simp
              (go_at_call 17; refine (HRB.out _ 4 _ (by omega) (by omega)).mono ?_; rintro e wn ⟨j2, rfl, j2b, hwn, j2e⟩; obtain rfl := hwn.symm; clear hwn; have hx2 : IntKind.i64.wrap ((j2 : Int) - 1) = (j2 : Int) - 1 := by rw [IntKind.wrap_i64]; omega)
              try go_wp2_with fail
              refine hK.out _ _ ?_ (fun hHeld5 => ?_)
              · try dsimp only
                try exact trivial
              clear hK K hHeld4
              try simp only [Act.put, List.setIfInBounds_toArray, List.set_cons_zero, List.set_cons_succ]
              refine wpAnyH_take (i := 12) (oi := { dst := some 124, op := Go.Op.binOp Go.BinOp.sub 3 (Go.Operand.tmp 123) (Go.Operand.const (Go.Value.int Go.IntKind.i64 1)) 3, type := 3, pos := "law.go:36", after := #[{ on := 11, ground := Go.Ground.data }], guard := none }) (v := .int .i64 ((j2 : Int) - 1)) rfl (by kernel_rfl) (by kernel_rfl) (by kernel_rfl) (fun _ _ _ h => h) (Or.inl ⟨by rfl, ?_⟩) (by assumption) ?_
              · (intro W hSw; (try dsimp only at hSw); go_simp; try with_reducible rfl)
              try simp only [Act.put, List.setIfInBounds_toArray, List.set_cons_zero, List.set_cons_succ]
              refine wpAnyH_ready (rs := [15]) (by kernel_rfl) (by simp) ?_
              refine AllReadyH.cons (o := { dst := some 127, op := Go.Op.call { callee := Go.Callee.value (Go.Operand.func 17), args := #[Go.Operand.tmp 126, Go.Operand.const (Go.Value.int Go.IntKind.i64 5)], argTypes := #[3, 3] }, type := 3, pos := "law.go:36", after := #[{ on := 14, ground := Go.Ground.data }, { on := 11, ground := Go.Ground.chain }], guard := none }) rfl (fun K hK => ?_) ?_
              · go_simp
                (go_at_call 17; refine (HRB.out _ 5 _ (by omega) (by omega)).mono ?_; rintro e wn ⟨j3, rfl, j3b, hwn, j3e⟩; obtain rfl := hwn.symm; clear hwn; have hx3 : IntKind.i64.wrap ((j3 : Int) / 4) = (j3 : Int) / 4 := by rw [IntKind.wrap_i64]; omega)
                try go_wp2_with fail
                refine hK.out _ _ ?_ (fun hHeld6 => ?_)
                · try dsimp only
                  try exact trivial
                clear hK K hHeld5
                try simp only [Act.put, List.setIfInBounds_toArray, List.set_cons_zero, List.set_cons_succ]
                refine wpAnyH_take (i := 16) (oi := { dst := some 128, op := Go.Op.binOp Go.BinOp.quo 3 (Go.Operand.tmp 127) (Go.Operand.const (Go.Value.int Go.IntKind.i64 4)) 3, type := 3, pos := "law.go:36", after := #[{ on := 15, ground := Go.Ground.data }], guard := none }) (v := .int .i64 ((j3 : Int) / 4)) rfl (by kernel_rfl) (by kernel_rfl) (by kernel_rfl) (fun _ _ _ h => h) (Or.inl ⟨by rfl, ?_⟩) (by assumption) ?_
                · (intro W hSw; (try dsimp only at hSw); go_simp; try with_reducible rfl)
                try simp only [Act.put, List.setIfInBounds_toArray, List.set_cons_zero, List.set_cons_succ]
                refine wpAnyH_take (i := 17) (oi := { dst := some 129, op := Go.Op.build 67 #[(0, Go.Operand.tmp 120), (4, Go.Operand.tmp 124), (5, Go.Operand.tmp 128)], type := 67, pos := "law.go:36", after := #[{ on := 8, ground := Go.Ground.data }, { on := 12, ground := Go.Ground.data }, { on := 16, ground := Go.Ground.data }], guard := none }) (v := .agg #[.int .i64 ((n : Int) + (j1 : Int)), .string ⟨#[]⟩, .string ⟨#[]⟩, .string ⟨#[]⟩, .int .i64 ((j2 : Int) - 1), .int .i64 ((j3 : Int) / 4)]) rfl (by kernel_rfl) (by kernel_rfl) (by kernel_rfl) (fun _ _ _ h => h) (Or.inl ⟨by rfl, ?_⟩) (by assumption) ?_
                · (intro W hSw; (try dsimp only at hSw); go_simp; try with_reducible rfl)
                try simp only [Act.put, List.setIfInBounds_toArray, List.set_cons_zero, List.set_cons_succ]
                refine wpAnyH_ready (rs := [18]) (by kernel_rfl) (by simp) ?_
                refine AllReadyH.cons (o := { dst := some 130, op := Go.Op.buildSlice 29 1 #[(0, Go.Operand.tmp 129)], type := 29, pos := "law.go:36", after := #[{ on := 17, ground := Go.Ground.data }], guard := none }) rfl (fun K hK => ?_) ?_
                · go_simp
                  refine hK.out _ _ ?_ (fun hHeld7 => ?_)
                  · try dsimp only
                    try exact trivial
                  clear hK K hHeld6
                  try simp only [Act.put, List.setIfInBounds_toArray, List.set_cons_zero, List.set_cons_succ]
                  refine wpAnyH_ready (rs := [19]) (by kernel_rfl) (by simp) ?_
                  refine AllReadyH.cons (o := { dst := some 131, op := Go.Op.call { callee := Go.Callee.builtin Go.Builtin.append, args := #[Go.Operand.tmp 114, Go.Operand.tmp 130], argTypes := #[29, 29] }, type := 29, pos := "law.go:36", after := #[{ on := 2, ground := Go.Ground.data }, { on := 18, ground := Go.Ground.data }, { on := 15, ground := Go.Ground.chain }], guard := none }) rfl (fun K hK => ?_) ?_
                  · (refine step_append_r _ rfl (.tmp 114) (.tmp 130) 29 rfl 6 72 (w.heap.size + 2) 67 i0 _ RV.stay (by decide) Tryd.underlying29 hi0 hz0 hz1 hz2 rfl (by omega) A1 n c1 hs (by simp [Act.eval, Act.put]) (ho1.call RV.stay ((Below.refl _ _).alloc (Nat.le_refl _) _)) (some ⟨w1.heap.size, 0, none⟩) 1 1 (by simp [Act.eval, Act.put]) [⟨(n : Int) + (j1 : Int), ⟨#[]⟩, ⟨#[]⟩, ⟨#[]⟩, (j2 : Int) - 1, (j3 : Int) / 4⟩] _ (Reads.litAt (cs := #[.int .i64 ((n : Int) + (j1 : Int)), .string ⟨#[]⟩, .string ⟨#[]⟩, .string ⟨#[]⟩, .int .i64 ((j2 : Int) - 1), .int .i64 ((j3 : Int) / 4)]) rfl rfl) (rv_lit ⟨(n : Int) + (j1 : Int), ⟨#[]⟩, ⟨#[]⟩, ⟨#[]⟩, (j2 : Int) - 1, (j3 : Int) / 4⟩) rfl ?_ ?_ ?_ ?_ ?_; (focus (simp [Value.oneCell'])); (focus (unfold maxLen; omega)); (focus omega); (focus (rw [size_alloc_]; omega)); intro A2 c2 w2 ho2 hg2; have kb2 : w2.heap[w.heap.size]? = _ := (hg2.b.block w.heap.size (by omega)).trans (heap_old kb1); have kr2 : w2.heap[w.heap.size + 1]? = _ := (hg2.b.block (w.heap.size + 1) (by omega)).trans (heap_old kr1); have hb2 : Below w.heap.size w w2 := (hb1.alloc (by omega) _).trans (hg2.b.mono (by omega)); have kq2 := Blk.cell kb2; have kqf2 := Blk.frozen kb2)
                    refine hK.out _ _ ?_ (fun hHeld8 => ?_)
                    · try dsimp only
                      try exact trivial
                    clear hK K hHeld7
                    try simp only [Act.put, List.setIfInBounds_toArray, List.set_cons_zero, List.set_cons_succ]
                    refine wpAnyH_take (i := 20) (oi := { dst := some 132, op := Go.Op.fieldAddr 31 (Go.Operand.tmp 3) 7, type := 0, pos := "law.go:36", after := #[{ on := 0, ground := Go.Ground.phase }, { on := 1, ground := Go.Ground.phase }, { on := 2, ground := Go.Ground.phase }, { on := 3, ground := Go.Ground.phase }, { on := 4, ground := Go.Ground.phase }, { on := 5, ground := Go.Ground.phase }, { on := 6, ground := Go.Ground.phase }, { on := 7, ground := Go.Ground.phase }, { on := 8, ground := Go.Ground.phase }, { on := 9, ground := Go.Ground.phase }, { on := 10, ground := Go.Ground.phase }, { on := 11, ground := Go.Ground.phase }, { on := 12, ground := Go.Ground.phase }, { on := 13, ground := Go.Ground.phase }, { on := 14, ground := Go.Ground.phase }, { on := 15, ground := Go.Ground.phase }, { on := 16, ground := Go.Ground.phase }, { on := 17, ground := Go.Ground.phase }, { on := 18, ground := Go.Ground.phase }, { on := 19, ground := Go.Ground.phase }], guard := none }) (v := .pointer (some ⟨w.heap.size, 9, none⟩)) rfl (by kernel_rfl) (by kernel_rfl) (by kernel_rfl) (fun _ _ _ h => h) (Or.inl ⟨by rfl, ?_⟩) (by assumption) ?_
                    · (intro W hSw; (try dsimp only at hSw); go_simp; try with_reducible rfl)
                    try simp only [Act.put, List.setIfInBounds_toArray, List.set_cons_zero, List.set_cons_succ]
                    refine wpAnyH_ready (rs := [21]) (by kernel_rfl) (by simp) ?_
                    refine AllReadyH.cons (o := { dst := none, op := Go.Op.store 29 (Go.Operand.tmp 132) (Go.Operand.tmp 131), type := 0, pos := "law.go:36", after := #[{ on := 20, ground := Go.Ground.data }, { on := 19, ground := Go.Ground.data }, { on := 19, ground := Go.Ground.chain }, { on := 0, ground := Go.Ground.phase }, { on := 1, ground := Go.Ground.phase }, { on := 2, ground := Go.Ground.phase }, { on := 3, ground := Go.Ground.phase }, { on := 4, ground := Go.Ground.phase }, { on := 5, ground := Go.Ground.phase }, { on := 6, ground := Go.Ground.phase }, { on := 7, ground := Go.Ground.phase }, { on := 8, ground := Go.Ground.phase }, { on := 9, ground := Go.Ground.phase }, { on := 10, ground := Go.Ground.phase }, { on := 11, ground := Go.Ground.phase }, { on := 12, ground := Go.Ground.phase }, { on := 13, ground := Go.Ground.phase }, { on := 14, ground := Go.Ground.phase }, { on := 15, ground := Go.Ground.phase }, { on := 16, ground := Go.Ground.phase }, { on := 17, ground := Go.Ground.phase }, { on := 18, ground := Go.Ground.phase }, { on := 19, ground := Go.Ground.phase }], guard := none }) rfl (fun K hK => ?_) ?_
                    · go_simp
                      refine hK.out _ _ ?_ (fun hHeld9 => ?_)
                      · try dsimp only
                        try exact trivial
                      clear hK K hHeld8
                      try simp only [Act.put, List.setIfInBounds_toArray, List.set_cons_zero, List.set_cons_succ]
                      refine wpAnyH_done (by kernel_rfl) ?_ _
                      rw [← j1e.out, ← j2e.out, ← j3e.out, ← HLN.out] at HC
                      have HNB : Hid (A2.map (·.block) ≠ some w.heap.size ∧ A2.map (·.block) ≠ some (w.heap.size + 1)) := Lib.hid ⟨fun hh => by have := (OwV.lt ho2 _ hh).1; omega, fun hh => by have := (OwV.lt ho2 _ hh).1; omega⟩
                      have HO2 := Lib.hid (OwV.st (i := 9) (u := .slice A2 (n + 1) c2) ho2 HNB.out.1)
                      have HWA := Lib.hid (show Lit.wf (.int .i64 ((n : Int) + (j1 : Int))) = true from WalkArith.wf_i64 (by omega))
                      have HWB := Lib.hid (show Lit.wf (.int .i64 ((j2 : Int) - 1)) = true from WalkArith.wf_i64 (by omega))
                      have HWC := Lib.hid (show Lit.wf (.int .i64 ((j3 : Int) / 4)) = true from WalkArith.wf_i64 (by omega))
                      have HWR : Hid (∀ r ∈ hs ++ [(⟨(n : Int) + (j1 : Int), ⟨#[]⟩, ⟨#[]⟩, ⟨#[]⟩, (j2 : Int) - 1, (j3 : Int) / 4⟩ : Rv)], RvWf r) := Lib.hid (fun r hr => by
                        rcases List.mem_append.1 hr with h | h
                        · exact HWF.out.hs r h
                        · simp only [List.mem_singleton] at h
                          subst h
                          exact ⟨HWA.out, Nat.zero_le _, Nat.zero_le _, Nat.zero_le _, HWB.out, HWC.out⟩)
                      clear ho2
                      have kw9 : (w2.setCell ⟨w.heap.size, 9, none⟩ (.slice A2 (n + 1) c2)).heap[w.heap.size]? = some (.cells #[.int .i64 kd, .string us, .string nt, .int .i64 ts, .string tn, .int .i64 os, .string on, .string tx, .int .i64 z, .slice A2 (n + 1) c2] 31 (0, 0)) := heap_set_near _ _ _ _ _ _ kb2
                      have kbs1 : (w2.setCell ⟨w.heap.size, 9, none⟩ (.slice A2 (n + 1) c2)).heap[w.heap.size]? = _ := kw9
                      have krs1 : (w2.setCell ⟨w.heap.size, 9, none⟩ (.slice A2 (n + 1) c2)).heap[w.heap.size + 1]? = _ := ((heap_set_far _ _ _ _ _ hne.symm).trans kr2)
                      have hbs1 : Below w.heap.size w (w2.setCell ⟨w.heap.size, 9, none⟩ (.slice A2 (n + 1) c2)) := (hb2.setCell (Nat.le_refl _) (.slice A2 (n + 1) c2))
                      clear kb2 kr2 hb2 kw9
                      go_upto_region 24 with fail
                      clear kq kqf kq1 kq2 kqf2
                      generalize (w2.setCell ⟨w.heap.size, 9, none⟩ (.slice A2 (n + 1) c2)) = y1 at *
                      have kcb := Blk.cell kbs1
                      have kfr := Blk.frozen krs1
                      have kcr0 := Blk.cell krs1
                      have kcz := Blk.cell (ten_kz krs1 (.int .i64 kd) (.string us) (.string nt) (.int .i64 ts) (.string tn) (.int .i64 os) (.string on) (.string tx) (.int .i64 z) (.slice A2 (n + 1) c2))
                      have HBF := Lib.hid (below_ten hbs1 (Nat.le_succ _) (.int .i64 kd) (.string us) (.string nt) (.int .i64 ts) (.string tn) (.int .i64 os) (.string on) (.string tx) (.int .i64 z) (.slice A2 (n + 1) c2))
                      have HOF := Lib.hid (OwV.ten HO2.out HNB.out.2 (.int .i64 kd) (.string us) (.string nt) (.int .i64 ts) (.string tn) (.int .i64 os) (.string on) (.string tx) (.int .i64 z) (.slice A2 (n + 1) c2))
                      clear kbs1 krs1 hbs1
                      go_wp2_with fail
                      refine bodyPost_ret (v := .agg #[.int .i64 kd, .string us, .string nt, .int .i64 ts, .string tn, .int .i64 os, .string on, .string tx, .int .i64 z, .slice A2 (n + 1) c2]) ?_ rfl ⟨⟨kd, us, nt, ts, tn, os, on, tx, z, hs ++ [⟨(n : Int) + (j1 : Int), ⟨#[]⟩, ⟨#[]⟩, ⟨#[]⟩, (j2 : Int) - 1, (j3 : Int) / 4⟩]⟩, A2, n + 1, c2, rfl, HOF.out.rd, OwV.ty HOF.out, ⟨HWF.out.kd, HWF.out.us, HWF.out.nt, HWF.out.ts, HWF.out.tn, HWF.out.os, HWF.out.on, HWF.out.tx, HWF.out.n, HWR.out⟩, HBF.out, HC.out⟩
                      simp [results, Tryd.results12, go_sem, kcz]
                    exact AllReadyH.nil
                  exact AllReadyH.nil
                exact AllReadyH.nil
              exact AllReadyH.nil
            exact AllReadyH.nil
          refine AllReadyH.cons (o := { dst := some 123, op := Go.Op.call { callee := Go.Callee.value (Go.Operand.func 17), args := #[Go.Operand.tmp 122, Go.Operand.const (Go.Value.int Go.IntKind.i64 4)], argTypes := #[3, 3] }, type := 3, pos := "law.go:36", after := #[{ on := 10, ground := Go.Ground.data }, { on := 7, ground := Go.Ground.chain }], guard := none }) rfl (fun K hK => ?_) ?_
          · go_simp
            (go_at_call 17; refine (HRB.out _ 4 _ (by omega) (by omega)).mono ?_; rintro e wn ⟨j2, rfl, j2b, hwn, j2e⟩; obtain rfl := hwn.symm; clear hwn; have hx2 : IntKind.i64.wrap ((j2 : Int) - 1) = (j2 : Int) - 1 := by rw [IntKind.wrap_i64]; omega)
            try go_wp2_with fail
            refine hK.out _ _ ?_ (fun hHeld4 => ?_)
            · try dsimp only
              try exact trivial
            clear hK K hHeld3
            try simp only [Act.put, List.setIfInBounds_toArray, List.set_cons_zero, List.set_cons_succ]
            refine wpAnyH_take (i := 12) (oi := { dst := some 124, op := Go.Op.binOp Go.BinOp.sub 3 (Go.Operand.tmp 123) (Go.Operand.const (Go.Value.int Go.IntKind.i64 1)) 3, type := 3, pos := "law.go:36", after := #[{ on := 11, ground := Go.Ground.data }], guard := none }) (v := .int .i64 ((j2 : Int) - 1)) rfl (by kernel_rfl) (by kernel_rfl) (by kernel_rfl) (fun _ _ _ h => h) (Or.inl ⟨by rfl, ?_⟩) (by assumption) ?_
            · (intro W hSw; (try dsimp only at hSw); go_simp; try with_reducible rfl)
            try simp only [Act.put, List.setIfInBounds_toArray, List.set_cons_zero, List.set_cons_succ]
            refine wpAnyH_ready (rs := [4, 15]) (by kernel_rfl) (by simp) ?_
            refine AllReadyH.cons (o := { dst := some 116, op := Go.Op.load 29 (Go.Operand.tmp 115), type := 29, pos := "law.go:36", after := #[{ on := 3, ground := Go.Ground.data }], guard := none }) rfl (fun K hK => ?_) ?_
            · go_simp
              refine hK.out _ _ ?_ (fun hHeld5 => ?_)
              · try dsimp only
                try exact trivial
              clear hK K hHeld4
              try simp only [Act.put, List.setIfInBounds_toArray, List.set_cons_zero, List.set_cons_succ]
              refine wpAnyH_take (i := 5) (oi := { dst := some 117, op := Go.Op.call { callee := Go.Callee.builtin Go.Builtin.len, args := #[Go.Operand.tmp 116], argTypes := #[29] }, type := 3, pos := "law.go:36", after := #[{ on := 4, ground := Go.Ground.data }], guard := none }) (v := .int .i64 (n : Int)) rfl (by kernel_rfl) (by kernel_rfl) (by kernel_rfl) (fun _ _ _ h => h) (Or.inl ⟨by rfl, ?_⟩) (by assumption) ?_
              · (intro W hSw; (try dsimp only at hSw); go_simp; try with_reducible rfl)
              try simp only [Act.put, List.setIfInBounds_toArray, List.set_cons_zero, List.set_cons_succ]
              refine wpAnyH_take (i := 8) (oi := { dst := some 120, op := Go.Op.binOp Go.BinOp.add 3 (Go.Operand.tmp 117) (Go.Operand.tmp 119) 3, type := 3, pos := "law.go:36", after := #[{ on := 5, ground := Go.Ground.data }, { on := 7, ground := Go.Ground.data }], guard := none }) (v := .int .i64 ((n : Int) + (j1 : Int))) rfl (by kernel_rfl) (by kernel_rfl) (by kernel_rfl) (fun _ _ _ h => h) (Or.inl ⟨by rfl, ?_⟩) (by assumption) ?_
              · (intro W hSw; (try dsimp only at hSw); go_simp; try with_reducible rfl)
              try simp only [Act.put, List.setIfInBounds_toArray, List.set_cons_zero, List.set_cons_succ]
              refine wpAnyH_ready (rs := [15]) (by kernel_rfl) (by simp) ?_
              refine AllReadyH.cons (o := { dst := some 127, op := Go.Op.call { callee := Go.Callee.value (Go.Operand.func 17), args := #[Go.Operand.tmp 126, Go.Operand.const (Go.Value.int Go.IntKind.i64 5)], argTypes := #[3, 3] }, type := 3, pos := "law.go:36", after := #[{ on := 14, ground := Go.Ground.data }, { on := 11, ground := Go.Ground.chain }], guard := none }) rfl (fun K hK => ?_) ?_
              · go_simp
                (go_at_call 17; refine (HRB.out _ 5 _ (by omega) (by omega)).mono ?_; rintro e wn ⟨j3, rfl, j3b, hwn, j3e⟩; obtain rfl := hwn.symm; clear hwn; have hx3 : IntKind.i64.wrap ((j3 : Int) / 4) = (j3 : Int) / 4 := by rw [IntKind.wrap_i64]; omega)
                try go_wp2_with fail
                refine hK.out _ _ ?_ (fun hHeld6 => ?_)
                · try dsimp only
                  try exact trivial
                clear hK K hHeld5
                try simp only [Act.put, List.setIfInBounds_toArray, List.set_cons_zero, List.set_cons_succ]
                refine wpAnyH_take (i := 16) (oi := { dst := some 128, op := Go.Op.binOp Go.BinOp.quo 3 (Go.Operand.tmp 127) (Go.Operand.const (Go.Value.int Go.IntKind.i64 4)) 3, type := 3, pos := "law.go:36", after := #[{ on := 15, ground := Go.Ground.data }], guard := none }) (v := .int .i64 ((j3 : Int) / 4)) rfl (by kernel_rfl) (by kernel_rfl) (by kernel_rfl) (fun _ _ _ h => h) (Or.inl ⟨by rfl, ?_⟩) (by assumption) ?_
                · (intro W hSw; (try dsimp only at hSw); go_simp; try with_reducible rfl)
                try simp only [Act.put, List.setIfInBounds_toArray, List.set_cons_zero, List.set_cons_succ]
                refine wpAnyH_take (i := 17) (oi := { dst := some 129, op := Go.Op.build 67 #[(0, Go.Operand.tmp 120), (4, Go.Operand.tmp 124), (5, Go.Operand.tmp 128)], type := 67, pos := "law.go:36", after := #[{ on := 8, ground := Go.Ground.data }, { on := 12, ground := Go.Ground.data }, { on := 16, ground := Go.Ground.data }], guard := none }) (v := .agg #[.int .i64 ((n : Int) + (j1 : Int)), .string ⟨#[]⟩, .string ⟨#[]⟩, .string ⟨#[]⟩, .int .i64 ((j2 : Int) - 1), .int .i64 ((j3 : Int) / 4)]) rfl (by kernel_rfl) (by kernel_rfl) (by kernel_rfl) (fun _ _ _ h => h) (Or.inl ⟨by rfl, ?_⟩) (by assumption) ?_
                · (intro W hSw; (try dsimp only at hSw); go_simp; try with_reducible rfl)
                try simp only [Act.put, List.setIfInBounds_toArray, List.set_cons_zero, List.set_cons_succ]
                refine wpAnyH_ready (rs := [18]) (by kernel_rfl) (by simp) ?_
                refine AllReadyH.cons (o := { dst := some 130, op := Go.Op.buildSlice 29 1 #[(0, Go.Operand.tmp 129)], type := 29, pos := "law.go:36", after := #[{ on := 17, ground := Go.Ground.data }], guard := none }) rfl (fun K hK => ?_) ?_
                · go_simp
                  refine hK.out _ _ ?_ (fun hHeld7 => ?_)
                  · try dsimp only
                    try exact trivial
                  clear hK K hHeld6
                  try simp only [Act.put, List.setIfInBounds_toArray, List.set_cons_zero, List.set_cons_succ]
                  refine wpAnyH_ready (rs := [19]) (by kernel_rfl) (by simp) ?_
                  refine AllReadyH.cons (o := { dst := some 131, op := Go.Op.call { callee := Go.Callee.builtin Go.Builtin.append, args := #[Go.Operand.tmp 114, Go.Operand.tmp 130], argTypes := #[29, 29] }, type := 29, pos := "law.go:36", after := #[{ on := 2, ground := Go.Ground.data }, { on := 18, ground := Go.Ground.data }, { on := 15, ground := Go.Ground.chain }], guard := none }) rfl (fun K hK => ?_) ?_
                  · (refine step_append_r _ rfl (.tmp 114) (.tmp 130) 29 rfl 6 72 (w.heap.size + 2) 67 i0 _ RV.stay (by decide) Tryd.underlying29 hi0 hz0 hz1 hz2 rfl (by omega) A1 n c1 hs (by simp [Act.eval, Act.put]) (ho1.call RV.stay ((Below.refl _ _).alloc (Nat.le_refl _) _)) (some ⟨w1.heap.size, 0, none⟩) 1 1 (by simp [Act.eval, Act.put]) [⟨(n : Int) + (j1 : Int), ⟨#[]⟩, ⟨#[]⟩, ⟨#[]⟩, (j2 : Int) - 1, (j3 : Int) / 4⟩] _ (Reads.litAt (cs := #[.int .i64 ((n : Int) + (j1 : Int)), .string ⟨#[]⟩, .string ⟨#[]⟩, .string ⟨#[]⟩, .int .i64 ((j2 : Int) - 1), .int .i64 ((j3 : Int) / 4)]) rfl rfl) (rv_lit ⟨(n : Int) + (j1 : Int), ⟨#[]⟩, ⟨#[]⟩, ⟨#[]⟩, (j2 : Int) - 1, (j3 : Int) / 4⟩) rfl ?_ ?_ ?_ ?_ ?_; (focus (simp [Value.oneCell'])); (focus (unfold maxLen; omega)); (focus omega); (focus (rw [size_alloc_]; omega)); intro A2 c2 w2 ho2 hg2; have kb2 : w2.heap[w.heap.size]? = _ := (hg2.b.block w.heap.size (by omega)).trans (heap_old kb1); have kr2 : w2.heap[w.heap.size + 1]? = _ := (hg2.b.block (w.heap.size + 1) (by omega)).trans (heap_old kr1); have hb2 : Below w.heap.size w w2 := (hb1.alloc (by omega) _).trans (hg2.b.mono (by omega)); have kq2 := Blk.cell kb2; have kqf2 := Blk.frozen kb2)
                    refine hK.out _ _ ?_ (fun hHeld8 => ?_)
                    · try dsimp only
                      try exact trivial
                    clear hK K hHeld7
                    try simp only [Act.put, List.setIfInBounds_toArray, List.set_cons_zero, List.set_cons_succ]
                    refine wpAnyH_take (i := 20) (oi := { dst := some 132, op := Go.Op.fieldAddr 31 (Go.Operand.tmp 3) 7, type := 0, pos := "law.go:36", after := #[{ on := 0, ground := Go.Ground.phase }, { on := 1, ground := Go.Ground.phase }, { on := 2, ground := Go.Ground.phase }, { on := 3, ground := Go.Ground.phase }, { on := 4, ground := Go.Ground.phase }, { on := 5, ground := Go.Ground.phase }, { on := 6, ground := Go.Ground.phase }, { on := 7, ground := Go.Ground.phase }, { on := 8, ground := Go.Ground.phase }, { on := 9, ground := Go.Ground.phase }, { on := 10, ground := Go.Ground.phase }, { on := 11, ground := Go.Ground.phase }, { on := 12, ground := Go.Ground.phase }, { on := 13, ground := Go.Ground.phase }, { on := 14, ground := Go.Ground.phase }, { on := 15, ground := Go.Ground.phase }, { on := 16, ground := Go.Ground.phase }, { on := 17, ground := Go.Ground.phase }, { on := 18, ground := Go.Ground.phase }, { on := 19, ground := Go.Ground.phase }], guard := none }) (v := .pointer (some ⟨w.heap.size, 9, none⟩)) rfl (by kernel_rfl) (by kernel_rfl) (by kernel_rfl) (fun _ _ _ h => h) (Or.inl ⟨by rfl, ?_⟩) (by assumption) ?_
                    · (intro W hSw; (try dsimp only at hSw); go_simp; try with_reducible rfl)
                    try simp only [Act.put, List.setIfInBounds_toArray, List.set_cons_zero, List.set_cons_succ]
                    refine wpAnyH_ready (rs := [21]) (by kernel_rfl) (by simp) ?_
                    refine AllReadyH.cons (o := { dst := none, op := Go.Op.store 29 (Go.Operand.tmp 132) (Go.Operand.tmp 131), type := 0, pos := "law.go:36", after := #[{ on := 20, ground := Go.Ground.data }, { on := 19, ground := Go.Ground.data }, { on := 19, ground := Go.Ground.chain }, { on := 0, ground := Go.Ground.phase }, { on := 1, ground := Go.Ground.phase }, { on := 2, ground := Go.Ground.phase }, { on := 3, ground := Go.Ground.phase }, { on := 4, ground := Go.Ground.phase }, { on := 5, ground := Go.Ground.phase }, { on := 6, ground := Go.Ground.phase }, { on := 7, ground := Go.Ground.phase }, { on := 8, ground := Go.Ground.phase }, { on := 9, ground := Go.Ground.phase }, { on := 10, ground := Go.Ground.phase }, { on := 11, ground := Go.Ground.phase }, { on := 12, ground := Go.Ground.phase }, { on := 13, ground := Go.Ground.phase }, { on := 14, ground := Go.Ground.phase }, { on := 15, ground := Go.Ground.phase }, { on := 16, ground := Go.Ground.phase }, { on := 17, ground := Go.Ground.phase }, { on := 18, ground := Go.Ground.phase }, { on := 19, ground := Go.Ground.phase }], guard := none }) rfl (fun K hK => ?_) ?_
                    · go_simp
                      refine hK.out _ _ ?_ (fun hHeld9 => ?_)
                      · try dsimp only
                        try exact trivial
                      clear hK K hHeld8
                      try simp only [Act.put, List.setIfInBounds_toArray, List.set_cons_zero, List.set_cons_succ]
                      refine wpAnyH_done (by kernel_rfl) ?_ _
                      rw [← j1e.out, ← j2e.out, ← j3e.out, ← HLN.out] at HC
                      have HNB : Hid (A2.map (·.block) ≠ some w.heap.size ∧ A2.map (·.block) ≠ some (w.heap.size + 1)) := Lib.hid ⟨fun hh => by have := (OwV.lt ho2 _ hh).1; omega, fun hh => by have := (OwV.lt ho2 _ hh).1; omega⟩
                      have HO2 := Lib.hid (OwV.st (i := 9) (u := .slice A2 (n + 1) c2) ho2 HNB.out.1)
                      have HWA := Lib.hid (show Lit.wf (.int .i64 ((n : Int) + (j1 : Int))) = true from WalkArith.wf_i64 (by omega))
                      have HWB := Lib.hid (show Lit.wf (.int .i64 ((j2 : Int) - 1)) = true from WalkArith.wf_i64 (by omega))
                      have HWC := Lib.hid (show Lit.wf (.int .i64 ((j3 : Int) / 4)) = true from WalkArith.wf_i64 (by omega))
                      have HWR : Hid (∀ r ∈ hs ++ [(⟨(n : Int) + (j1 : Int), ⟨#[]⟩, ⟨#[]⟩, ⟨#[]⟩, (j2 : Int) - 1, (j3 : Int) / 4⟩ : Rv)], RvWf r) := Lib.hid (fun r hr => by
                        rcases List.mem_append.1 hr with h | h
                        · exact HWF.out.hs r h
                        · simp only [List.mem_singleton] at h
                          subst h
                          exact ⟨HWA.out, Nat.zero_le _, Nat.zero_le _, Nat.zero_le _, HWB.out, HWC.out⟩)
                      clear ho2
                      have kw9 : (w2.setCell ⟨w.heap.size, 9, none⟩ (.slice A2 (n + 1) c2)).heap[w.heap.size]? = some (.cells #[.int .i64 kd, .string us, .string nt, .int .i64 ts, .string tn, .int .i64 os, .string on, .string tx, .int .i64 z, .slice A2 (n + 1) c2] 31 (0, 0)) := heap_set_near _ _ _ _ _ _ kb2
                      have kbs1 : (w2.setCell ⟨w.heap.size, 9, none⟩ (.slice A2 (n + 1) c2)).heap[w.heap.size]? = _ := kw9
                      have krs1 : (w2.setCell ⟨w.heap.size, 9, none⟩ (.slice A2 (n + 1) c2)).heap[w.heap.size + 1]? = _ := ((heap_set_far _ _ _ _ _ hne.symm).trans kr2)
                      have hbs1 : Below w.heap.size w (w2.setCell ⟨w.heap.size, 9, none⟩ (.slice A2 (n + 1) c2)) := (hb2.setCell (Nat.le_refl _) (.slice A2 (n + 1) c2))
                      clear kb2 kr2 hb2 kw9
                      go_upto_region 24 with fail
                      clear kq kqf kq1 kq2 kqf2
                      generalize (w2.setCell ⟨w.heap.size, 9, none⟩ (.slice A2 (n + 1) c2)) = y1 at *
                      have kcb := Blk.cell kbs1
                      have kfr := Blk.frozen krs1
                      have kcr0 := Blk.cell krs1
                      have kcz := Blk.cell (ten_kz krs1 (.int .i64 kd) (.string us) (.string nt) (.int .i64 ts) (.string tn) (.int .i64 os) (.string on) (.string tx) (.int .i64 z) (.slice A2 (n + 1) c2))
                      have HBF := Lib.hid (below_ten hbs1 (Nat.le_succ _) (.int .i64 kd) (.string us) (.string nt) (.int .i64 ts) (.string tn) (.int .i64 os) (.string on) (.string tx) (.int .i64 z) (.slice A2 (n + 1) c2))
                      have HOF := Lib.hid (OwV.ten HO2.out HNB.out.2 (.int .i64 kd) (.string us) (.string nt) (.int .i64 ts) (.string tn) (.int .i64 os) (.string on) (.string tx) (.int .i64 z) (.slice A2 (n + 1) c2))
                      clear kbs1 krs1 hbs1
                      go_wp2_with fail
                      refine bodyPost_ret (v := .agg #[.int .i64 kd, .string us, .string nt, .int .i64 ts, .string tn, .int .i64 os, .string on, .string tx, .int .i64 z, .slice A2 (n + 1) c2]) ?_ rfl ⟨⟨kd, us, nt, ts, tn, os, on, tx, z, hs ++ [⟨(n : Int) + (j1 : Int), ⟨#[]⟩, ⟨#[]⟩, ⟨#[]⟩, (j2 : Int) - 1, (j3 : Int) / 4⟩]⟩, A2, n + 1, c2, rfl, HOF.out.rd, OwV.ty HOF.out, ⟨HWF.out.kd, HWF.out.us, HWF.out.nt, HWF.out.ts, HWF.out.tn, HWF.out.os, HWF.out.on, HWF.out.tx, HWF.out.n, HWR.out⟩, HBF.out, HC.out⟩
                      simp [results, Tryd.results12, go_sem, kcz]
                    exact AllReadyH.nil
                  exact AllReadyH.nil
                exact AllReadyH.nil
              exact AllReadyH.nil
            refine AllReadyH.cons (o := { dst := some 127, op := Go.Op.call { callee := Go.Callee.value (Go.Operand.func 17), args := #[Go.Operand.tmp 126, Go.Operand.const (Go.Value.int Go.IntKind.i64 5)], argTypes := #[3, 3] }, type := 3, pos := "law.go:36", after := #[{ on := 14, ground := Go.Ground.data }, { on := 11, ground := Go.Ground.chain }], guard := none }) rfl (fun K hK => ?_) ?_
            · go_simp
              (go_at_call 17; refine (HRB.out _ 5 _ (by omega) (by omega)).mono ?_; rintro e wn ⟨j3, rfl, j3b, hwn, j3e⟩; obtain rfl := hwn.symm; clear hwn; have hx3 : IntKind.i64.wrap ((j3 : Int) / 4) = (j3 : Int) / 4 := by rw [IntKind.wrap_i64]; omega)
              try go_wp2_with fail
              refine hK.out _ _ ?_ (fun hHeld5 => ?_)
              · try dsimp only
                try exact trivial
              clear hK K hHeld4
              try simp only [Act.put, List.setIfInBounds_toArray, List.set_cons_zero, List.set_cons_succ]
              refine wpAnyH_take (i := 16) (oi := { dst := some 128, op := Go.Op.binOp Go.BinOp.quo 3 (Go.Operand.tmp 127) (Go.Operand.const (Go.Value.int Go.IntKind.i64 4)) 3, type := 3, pos := "law.go:36", after := #[{ on := 15, ground := Go.Ground.data }], guard := none }) (v := .int .i64 ((j3 : Int) / 4)) rfl (by kernel_rfl) (by kernel_rfl) (by kernel_rfl) (fun _ _ _ h => h) (Or.inl ⟨by rfl, ?_⟩) (by assumption) ?_
              · (intro W hSw; (try dsimp only at hSw); go_simp; try with_reducible rfl)
              try simp only [Act.put, List.setIfInBounds_toArray, List.set_cons_zero, List.set_cons_succ]
              refine wpAnyH_ready (rs := [4]) (by kernel_rfl) (by simp) ?_
              refine AllReadyH.cons (o := { dst := some 116, op := Go.Op.load 29 (Go.Operand.tmp 115), type := 29, pos := "law.go:36", after := #[{ on := 3, ground := Go.Ground.data }], guard := none }) rfl (fun K hK => ?_) ?_
              · go_simp
                refine hK.out _ _ ?_ (fun hHeld6 => ?_)
                · try dsimp only
                  try exact trivial
                clear hK K hHeld5
                try simp only [Act.put, List.setIfInBounds_toArray, List.set_cons_zero, List.set_cons_succ]
                refine wpAnyH_take (i := 5) (oi := { dst := some 117, op := Go.Op.call { callee := Go.Callee.builtin Go.Builtin.len, args := #[Go.Operand.tmp 116], argTypes := #[29] }, type := 3, pos := "law.go:36", after := #[{ on := 4, ground := Go.Ground.data }], guard := none }) (v := .int .i64 (n : Int)) rfl (by kernel_rfl) (by kernel_rfl) (by kernel_rfl) (fun _ _ _ h => h) (Or.inl ⟨by rfl, ?_⟩) (by assumption) ?_
                · (intro W hSw; (try dsimp only at hSw); go_simp; try with_reducible rfl)
                try simp only [Act.put, List.setIfInBounds_toArray, List.set_cons_zero, List.set_cons_succ]
                refine wpAnyH_take (i := 8) (oi := { dst := some 120, op := Go.Op.binOp Go.BinOp.add 3 (Go.Operand.tmp 117) (Go.Operand.tmp 119) 3, type := 3, pos := "law.go:36", after := #[{ on := 5, ground := Go.Ground.data }, { on := 7, ground := Go.Ground.data }], guard := none }) (v := .int .i64 ((n : Int) + (j1 : Int))) rfl (by kernel_rfl) (by kernel_rfl) (by kernel_rfl) (fun _ _ _ h => h) (Or.inl ⟨by rfl, ?_⟩) (by assumption) ?_
                · (intro W hSw; (try dsimp only at hSw); go_simp; try with_reducible rfl)
                try simp only [Act.put, List.setIfInBounds_toArray, List.set_cons_zero, List.set_cons_succ]
                refine wpAnyH_take (i := 17) (oi := { dst := some 129, op := Go.Op.build 67 #[(0, Go.Operand.tmp 120), (4, Go.Operand.tmp 124), (5, Go.Operand.tmp 128)], type := 67, pos := "law.go:36", after := #[{ on := 8, ground := Go.Ground.data }, { on := 12, ground := Go.Ground.data }, { on := 16, ground := Go.Ground.data }], guard := none }) (v := .agg #[.int .i64 ((n : Int) + (j1 : Int)), .string ⟨#[]⟩, .string ⟨#[]⟩, .string ⟨#[]⟩, .int .i64 ((j2 : Int) - 1), .int .i64 ((j3 : Int) / 4)]) rfl (by kernel_rfl) (by kernel_rfl) (by kernel_rfl) (fun _ _ _ h => h) (Or.inl ⟨by rfl, ?_⟩) (by assumption) ?_
                · (intro W hSw; (try dsimp only at hSw); go_simp; try with_reducible rfl)
                try simp only [Act.put, List.setIfInBounds_toArray, List.set_cons_zero, List.set_cons_succ]
                refine wpAnyH_ready (rs := [18]) (by kernel_rfl) (by simp) ?_
                refine AllReadyH.cons (o := { dst := some 130, op := Go.Op.buildSlice 29 1 #[(0, Go.Operand.tmp 129)], type := 29, pos := "law.go:36", after := #[{ on := 17, ground := Go.Ground.data }], guard := none }) rfl (fun K hK => ?_) ?_
                · go_simp
                  refine hK.out _ _ ?_ (fun hHeld7 => ?_)
                  · try dsimp only
                    try exact trivial
                  clear hK K hHeld6
                  try simp only [Act.put, List.setIfInBounds_toArray, List.set_cons_zero, List.set_cons_succ]
                  refine wpAnyH_ready (rs := [19]) (by kernel_rfl) (by simp) ?_
                  refine AllReadyH.cons (o := { dst := some 131, op := Go.Op.call { callee := Go.Callee.builtin Go.Builtin.append, args := #[Go.Operand.tmp 114, Go.Operand.tmp 130], argTypes := #[29, 29] }, type := 29, pos := "law.go:36", after := #[{ on := 2, ground := Go.Ground.data }, { on := 18, ground := Go.Ground.data }, { on := 15, ground := Go.Ground.chain }], guard := none }) rfl (fun K hK => ?_) ?_
                  · (refine step_append_r _ rfl (.tmp 114) (.tmp 130) 29 rfl 6 72 (w.heap.size + 2) 67 i0 _ RV.stay (by decide) Tryd.underlying29 hi0 hz0 hz1 hz2 rfl (by omega) A1 n c1 hs (by simp [Act.eval, Act.put]) (ho1.call RV.stay ((Below.refl _ _).alloc (Nat.le_refl _) _)) (some ⟨w1.heap.size, 0, none⟩) 1 1 (by simp [Act.eval, Act.put]) [⟨(n : Int) + (j1 : Int), ⟨#[]⟩, ⟨#[]⟩, ⟨#[]⟩, (j2 : Int) - 1, (j3 : Int) / 4⟩] _ (Reads.litAt (cs := #[.int .i64 ((n : Int) + (j1 : Int)), .string ⟨#[]⟩, .string ⟨#[]⟩, .string ⟨#[]⟩, .int .i64 ((j2 : Int) - 1), .int .i64 ((j3 : Int) / 4)]) rfl rfl) (rv_lit ⟨(n : Int) + (j1 : Int), ⟨#[]⟩, ⟨#[]⟩, ⟨#[]⟩, (j2 : Int) - 1, (j3 : Int) / 4⟩) rfl ?_ ?_ ?_ ?_ ?_; (focus (simp [Value.oneCell'])); (focus (unfold maxLen; omega)); (focus omega); (focus (rw [size_alloc_]; omega)); intro A2 c2 w2 ho2 hg2; have kb2 : w2.heap[w.heap.size]? = _ := (hg2.b.block w.heap.size (by omega)).trans (heap_old kb1); have kr2 : w2.heap[w.heap.size + 1]? = _ := (hg2.b.block (w.heap.size + 1) (by omega)).trans (heap_old kr1); have hb2 : Below w.heap.size w w2 := (hb1.alloc (by omega) _).trans (hg2.b.mono (by omega)); have kq2 := Blk.cell kb2; have kqf2 := Blk.frozen kb2)
                    refine hK.out _ _ ?_ (fun hHeld8 => ?_)
                    · try dsimp only
                      try exact trivial
                    clear hK K hHeld7
                    try simp only [Act.put, List.setIfInBounds_toArray, List.set_cons_zero, List.set_cons_succ]
                    refine wpAnyH_take (i := 20) (oi := { dst := some 132, op := Go.Op.fieldAddr 31 (Go.Operand.tmp 3) 7, type := 0, pos := "law.go:36", after := #[{ on := 0, ground := Go.Ground.phase }, { on := 1, ground := Go.Ground.phase }, { on := 2, ground := Go.Ground.phase }, { on := 3, ground := Go.Ground.phase }, { on := 4, ground := Go.Ground.phase }, { on := 5, ground := Go.Ground.phase }, { on := 6, ground := Go.Ground.phase }, { on := 7, ground := Go.Ground.phase }, { on := 8, ground := Go.Ground.phase }, { on := 9, ground := Go.Ground.phase }, { on := 10, ground := Go.Ground.phase }, { on := 11, ground := Go.Ground.phase }, { on := 12, ground := Go.Ground.phase }, { on := 13, ground := Go.Ground.phase }, { on := 14, ground := Go.Ground.phase }, { on := 15, ground := Go.Ground.phase }, { on := 16, ground := Go.Ground.phase }, { on := 17, ground := Go.Ground.phase }, { on := 18, ground := Go.Ground.phase }, { on := 19, ground := Go.Ground.phase }], guard := none }) (v := .pointer (some ⟨w.heap.size, 9, none⟩)) rfl (by kernel_rfl) (by kernel_rfl) (by kernel_rfl) (fun _ _ _ h => h) (Or.inl ⟨by rfl, ?_⟩) (by assumption) ?_
                    · (intro W hSw; (try dsimp only at hSw); go_simp; try with_reducible rfl)
                    try simp only [Act.put, List.setIfInBounds_toArray, List.set_cons_zero, List.set_cons_succ]
                    refine wpAnyH_ready (rs := [21]) (by kernel_rfl) (by simp) ?_
                    refine AllReadyH.cons (o := { dst := none, op := Go.Op.store 29 (Go.Operand.tmp 132) (Go.Operand.tmp 131), type := 0, pos := "law.go:36", after := #[{ on := 20, ground := Go.Ground.data }, { on := 19, ground := Go.Ground.data }, { on := 19, ground := Go.Ground.chain }, { on := 0, ground := Go.Ground.phase }, { on := 1, ground := Go.Ground.phase }, { on := 2, ground := Go.Ground.phase }, { on := 3, ground := Go.Ground.phase }, { on := 4, ground := Go.Ground.phase }, { on := 5, ground := Go.Ground.phase }, { on := 6, ground := Go.Ground.phase }, { on := 7, ground := Go.Ground.phase }, { on := 8, ground := Go.Ground.phase }, { on := 9, ground := Go.Ground.phase }, { on := 10, ground := Go.Ground.phase }, { on := 11, ground := Go.Ground.phase }, { on := 12, ground := Go.Ground.phase }, { on := 13, ground := Go.Ground.phase }, { on := 14, ground := Go.Ground.phase }, { on := 15, ground := Go.Ground.phase }, { on := 16, ground := Go.Ground.phase }, { on := 17, ground := Go.Ground.phase }, { on := 18, ground := Go.Ground.phase }, { on := 19, ground := Go.Ground.phase }], guard := none }) rfl (fun K hK => ?_) ?_
                    · go_simp
                      refine hK.out _ _ ?_ (fun hHeld9 => ?_)
                      · try dsimp only
                        try exact trivial
                      clear hK K hHeld8
                      try simp only [Act.put, List.setIfInBounds_toArray, List.set_cons_zero, List.set_cons_succ]
                      refine wpAnyH_done (by kernel_rfl) ?_ _
                      rw [← j1e.out, ← j2e.out, ← j3e.out, ← HLN.out] at HC
                      have HNB : Hid (A2.map (·.block) ≠ some w.heap.size ∧ A2.map (·.block) ≠ some (w.heap.size + 1)) := Lib.hid ⟨fun hh => by have := (OwV.lt ho2 _ hh).1; omega, fun hh => by have := (OwV.lt ho2 _ hh).1; omega⟩
                      have HO2 := Lib.hid (OwV.st (i := 9) (u := .slice A2 (n + 1) c2) ho2 HNB.out.1)
                      have HWA := Lib.hid (show Lit.wf (.int .i64 ((n : Int) + (j1 : Int))) = true from WalkArith.wf_i64 (by omega))
                      have HWB := Lib.hid (show Lit.wf (.int .i64 ((j2 : Int) - 1)) = true from WalkArith.wf_i64 (by omega))
                      have HWC := Lib.hid (show Lit.wf (.int .i64 ((j3 : Int) / 4)) = true from WalkArith.wf_i64 (by omega))
                      have HWR : Hid (∀ r ∈ hs ++ [(⟨(n : Int) + (j1 : Int), ⟨#[]⟩, ⟨#[]⟩, ⟨#[]⟩, (j2 : Int) - 1, (j3 : Int) / 4⟩ : Rv)], RvWf r) := Lib.hid (fun r hr => by
                        rcases List.mem_append.1 hr with h | h
                        · exact HWF.out.hs r h
                        · simp only [List.mem_singleton] at h
                          subst h
                          exact ⟨HWA.out, Nat.zero_le _, Nat.zero_le _, Nat.zero_le _, HWB.out, HWC.out⟩)
                      clear ho2
                      have kw9 : (w2.setCell ⟨w.heap.size, 9, none⟩ (.slice A2 (n + 1) c2)).heap[w.heap.size]? = some (.cells #[.int .i64 kd, .string us, .string nt, .int .i64 ts, .string tn, .int .i64 os, .string on, .string tx, .int .i64 z, .slice A2 (n + 1) c2] 31 (0, 0)) := heap_set_near _ _ _ _ _ _ kb2
                      have kbs1 : (w2.setCell ⟨w.heap.size, 9, none⟩ (.slice A2 (n + 1) c2)).heap[w.heap.size]? = _ := kw9
                      have krs1 : (w2.setCell ⟨w.heap.size, 9, none⟩ (.slice A2 (n + 1) c2)).heap[w.heap.size + 1]? = _ := ((heap_set_far _ _ _ _ _ hne.symm).trans kr2)
                      have hbs1 : Below w.heap.size w (w2.setCell ⟨w.heap.size, 9, none⟩ (.slice A2 (n + 1) c2)) := (hb2.setCell (Nat.le_refl _) (.slice A2 (n + 1) c2))
                      clear kb2 kr2 hb2 kw9
                      go_upto_region 24 with fail
                      clear kq kqf kq1 kq2 kqf2
                      generalize (w2.setCell ⟨w.heap.size, 9, none⟩ (.slice A2 (n + 1) c2)) = y1 at *
                      have kcb := Blk.cell kbs1
                      have kfr := Blk.frozen krs1
                      have kcr0 := Blk.cell krs1
                      have kcz := Blk.cell (ten_kz krs1 (.int .i64 kd) (.string us) (.string nt) (.int .i64 ts) (.string tn) (.int .i64 os) (.string on) (.string tx) (.int .i64 z) (.slice A2 (n + 1) c2))
                      have HBF := Lib.hid (below_ten hbs1 (Nat.le_succ _) (.int .i64 kd) (.string us) (.string nt) (.int .i64 ts) (.string tn) (.int .i64 os) (.string on) (.string tx) (.int .i64 z) (.slice A2 (n + 1) c2))
                      have HOF := Lib.hid (OwV.ten HO2.out HNB.out.2 (.int .i64 kd) (.string us) (.string nt) (.int .i64 ts) (.string tn) (.int .i64 os) (.string on) (.string tx) (.int .i64 z) (.slice A2 (n + 1) c2))
                      clear kbs1 krs1 hbs1
                      go_wp2_with fail
                      refine bodyPost_ret (v := .agg #[.int .i64 kd, .string us, .string nt, .int .i64 ts, .string tn, .int .i64 os, .string on, .string tx, .int .i64 z, .slice A2 (n + 1) c2]) ?_ rfl ⟨⟨kd, us, nt, ts, tn, os, on, tx, z, hs ++ [⟨(n : Int) + (j1 : Int), ⟨#[]⟩, ⟨#[]⟩, ⟨#[]⟩, (j2 : Int) - 1, (j3 : Int) / 4⟩]⟩, A2, n + 1, c2, rfl, HOF.out.rd, OwV.ty HOF.out, ⟨HWF.out.kd, HWF.out.us, HWF.out.nt, HWF.out.ts, HWF.out.tn, HWF.out.os, HWF.out.on, HWF.out.tx, HWF.out.n, HWR.out⟩, HBF.out, HC.out⟩
                      simp [results, Tryd.results12, go_sem, kcz]
                    exact AllReadyH.nil
                  exact AllReadyH.nil
                exact AllReadyH.nil
              exact AllReadyH.nil
            exact AllReadyH.nil
          exact AllReadyH.nil
        exact AllReadyH.nil
      refine AllReadyH.cons (o := { dst := some 116, op := Go.Op.load 29 (Go.Operand.tmp 115), type := 29, pos := "law.go:36", after := #[{ on := 3, ground := Go.Ground.data }], guard := none }) rfl (fun K hK => ?_) ?_
      · go_simp
        refine hK.out _ _ ?_ (fun hHeld2 => ?_)
        · try dsimp only
          try exact trivial
        clear hK K hHeld1
        try simp only [Act.put, List.setIfInBounds_toArray, List.set_cons_zero, List.set_cons_succ]
        refine wpAnyH_take (i := 5) (oi := { dst := some 117, op := Go.Op.call { callee := Go.Callee.builtin Go.Builtin.len, args := #[Go.Operand.tmp 116], argTypes := #[29] }, type := 3, pos := "law.go:36", after := #[{ on := 4, ground := Go.Ground.data }], guard := none }) (v := .int .i64 (n : Int)) rfl (by kernel_rfl) (by kernel_rfl) (by kernel_rfl) (fun _ _ _ h => h) (Or.inl ⟨by rfl, ?_⟩) (by assumption) ?_
        · (intro W hSw; (try dsimp only at hSw); go_simp; try with_reducible rfl)
        try simp only [Act.put, List.setIfInBounds_toArray, List.set_cons_zero, List.set_cons_succ]
        refine wpAnyH_ready (rs := [2]) (by kernel_rfl) (by simp) ?_
        refine AllReadyH.cons (o := { dst := some 114, op := Go.Op.call { callee := Go.Callee.builtin Go.Builtin.append, args := #[Go.Operand.const (Go.Value.slice none 0 0), Go.Operand.tmp 113], argTypes := #[29, 29] }, type := 29, pos := "law.go:36", after := #[{ on := 1, ground := Go.Ground.data }], guard := none }) rfl (fun K hK => ?_) ?_
        · (refine step_append_r _ rfl (.const (.slice none 0 0)) (.tmp 113) 29 rfl 6 72 (w.heap.size + 2) 67 i0 _ RV.stay (by decide) Tryd.underlying29 hi0 hz0 hz1 hz2 rfl (by omega) none 0 0 [] rfl (OwR.nil _ _ _ _ _) A n cp rfl hs (rcells hs) HRW.out (fits_rcells _ _) HLN.out (rcells_one _) ?_ ?_ ?_ ?_; (focus (unfold maxLen; omega)); (focus omega); (focus exact hyz); intro A1 c1 w1 ho1 hg1; rw [Nat.zero_add, List.nil_append] at ho1; rw [Nat.zero_add]; have kb1 : w1.heap[w.heap.size]? = _ := (hg1.b.block w.heap.size (by omega)).trans kb; have kr1 : w1.heap[w.heap.size + 1]? = _ := (hg1.b.block (w.heap.size + 1) (by omega)).trans kr; have hb1 : Below w.heap.size w w1 := (below_drw hb0).trans (hg1.b.mono (by omega)); have kq1 := Blk.cell kb1; have hsz1 : w.heap.size + 2 ≤ w1.heap.size := Nat.le_trans hyz hg1.b.size)
          refine hK.out _ _ ?_ (fun hHeld3 => ?_)
          · try dsimp only
            try exact trivial
          clear hK K hHeld2
          try simp only [Act.put, List.setIfInBounds_toArray, List.set_cons_zero, List.set_cons_succ]
          refine wpAnyH_ready (rs := [7]) (by kernel_rfl) (by simp) ?_
          refine AllReadyH.cons (o := { dst := some 119, op := Go.Op.call { callee := Go.Callee.value (Go.Operand.func 17), args := #[Go.Operand.tmp 118, Go.Operand.const (Go.Value.int Go.IntKind.i64 3)], argTypes := #[3, 3] }, type := 3, pos := "law.go:36", after := #[{ on := 6, ground := Go.Ground.data }, { on := 2, ground := Go.Ground.chain }], guard := none }) rfl (fun K hK => ?_) ?_
          · go_simp
            (go_at_call 17; refine (HRB.out _ 3 _ (by omega) (by omega)).mono ?_; rintro e wn ⟨j1, rfl, j1b, hwn, j1e⟩; obtain rfl := hwn.symm; clear hwn; have hx1 : IntKind.i64.wrap ((n : Int) + (j1 : Int)) = (n : Int) + (j1 : Int) := by rw [IntKind.wrap_i64]; omega)
            try go_wp2_with fail
            refine hK.out _ _ ?_ (fun hHeld4 => ?_)
            · try dsimp only
              try exact trivial
            clear hK K hHeld3
            try simp only [Act.put, List.setIfInBounds_toArray, List.set_cons_zero, List.set_cons_succ]
            refine wpAnyH_take (i := 8) (oi := { dst := some 120, op := Go.Op.binOp Go.BinOp.add 3 (Go.Operand.tmp 117) (Go.Operand.tmp 119) 3, type := 3, pos := "law.go:36", after := #[{ on := 5, ground := Go.Ground.data }, { on := 7, ground := Go.Ground.data }], guard := none }) (v := .int .i64 ((n : Int) + (j1 : Int))) rfl (by kernel_rfl) (by kernel_rfl) (by kernel_rfl) (fun _ _ _ h => h) (Or.inl ⟨by rfl, ?_⟩) (by assumption) ?_
            · (intro W hSw; (try dsimp only at hSw); go_simp; try with_reducible rfl)
            try simp only [Act.put, List.setIfInBounds_toArray, List.set_cons_zero, List.set_cons_succ]
            refine wpAnyH_ready (rs := [11]) (by kernel_rfl) (by simp) ?_
            refine AllReadyH.cons (o := { dst := some 123, op := Go.Op.call { callee := Go.Callee.value (Go.Operand.func 17), args := #[Go.Operand.tmp 122, Go.Operand.const (Go.Value.int Go.IntKind.i64 4)], argTypes := #[3, 3] }, type := 3, pos := "law.go:36", after := #[{ on := 10, ground := Go.Ground.data }, { on := 7, ground := Go.Ground.chain }], guard := none }) rfl (fun K hK => ?_) ?_
            · go_simp
              (go_at_call 17; refine (HRB.out _ 4 _ (by omega) (by omega)).mono ?_; rintro e wn ⟨j2, rfl, j2b, hwn, j2e⟩; obtain rfl := hwn.symm; clear hwn; have hx2 : IntKind.i64.wrap ((j2 : Int) - 1) = (j2 : Int) - 1 := by rw [IntKind.wrap_i64]; omega)
              try go_wp2_with fail
              refine hK.out _ _ ?_ (fun hHeld5 => ?_)
              · try dsimp only
                try exact trivial
              clear hK K hHeld4
              try simp only [Act.put, List.setIfInBounds_toArray, List.set_cons_zero, List.set_cons_succ]
              refine wpAnyH_take (i := 12) (oi := { dst := some 124, op := Go.Op.binOp Go.BinOp.sub 3 (Go.Operand.tmp 123) (Go.Operand.const (Go.Value.int Go.IntKind.i64 1)) 3, type := 3, pos := "law.go:36", after := #[{ on := 11, ground := Go.Ground.data }], guard := none }) (v := .int .i64 ((j2 : Int) - 1)) rfl (by kernel_rfl) (by kernel_rfl) (by kernel_rfl) (fun _ _ _ h => h) (Or.inl ⟨by rfl, ?_⟩) (by assumption) ?_
              · (intro W hSw; (try dsimp only at hSw); go_simp; try with_reducible rfl)
              try simp only [Act.put, List.setIfInBounds_toArray, List.set_cons_zero, List.set_cons_succ]
              refine wpAnyH_ready (rs := [15]) (by kernel_rfl) (by simp) ?_
              refine AllReadyH.cons (o := { dst := some 127, op := Go.Op.call { callee := Go.Callee.value (Go.Operand.func 17), args := #[Go.Operand.tmp 126, Go.Operand.const (Go.Value.int Go.IntKind.i64 5)], argTypes := #[3, 3] }, type := 3, pos := "law.go:36", after := #[{ on := 14, ground := Go.Ground.data }, { on := 11, ground := Go.Ground.chain }], guard := none }) rfl (fun K hK => ?_) ?_
              · go_simp
                (go_at_call 17; refine (HRB.out _ 5 _ (by omega) (by omega)).mono ?_; rintro e wn ⟨j3, rfl, j3b, hwn, j3e⟩; obtain rfl := hwn.symm; clear hwn; have hx3 : IntKind.i64.wrap ((j3 : Int) / 4) = (j3 : Int) / 4 := by rw [IntKind.wrap_i64]; omega)
                try go_wp2_with fail
                refine hK.out _ _ ?_ (fun hHeld6 => ?_)
                · try dsimp only
                  try exact trivial
                clear hK K hHeld5
                try simp only [Act.put, List.setIfInBounds_toArray, List.set_cons_zero, List.set_cons_succ]
                refine wpAnyH_take (i := 16) (oi := { dst := some 128, op := Go.Op.binOp Go.BinOp.quo 3 (Go.Operand.tmp 127) (Go.Operand.const (Go.Value.int Go.IntKind.i64 4)) 3, type := 3, pos := "law.go:36", after := #[{ on := 15, ground := Go.Ground.data }], guard := none }) (v := .int .i64 ((j3 : Int) / 4)) rfl (by kernel_rfl) (by kernel_rfl) (by kernel_rfl) (fun _ _ _ h => h) (Or.inl ⟨by rfl, ?_⟩) (by assumption) ?_
                · (intro W hSw; (try dsimp only at hSw); go_simp; try with_reducible rfl)
                try simp only [Act.put, List.setIfInBounds_toArray, List.set_cons_zero, List.set_cons_succ]
                refine wpAnyH_take (i := 17) (oi := { dst := some 129, op := Go.Op.build 67 #[(0, Go.Operand.tmp 120), (4, Go.Operand.tmp 124), (5, Go.Operand.tmp 128)], type := 67, pos := "law.go:36", after := #[{ on := 8, ground := Go.Ground.data }, { on := 12, ground := Go.Ground.data }, { on := 16, ground := Go.Ground.data }], guard := none }) (v := .agg #[.int .i64 ((n : Int) + (j1 : Int)), .string ⟨#[]⟩, .string ⟨#[]⟩, .string ⟨#[]⟩, .int .i64 ((j2 : Int) - 1), .int .i64 ((j3 : Int) / 4)]) rfl (by kernel_rfl) (by kernel_rfl) (by kernel_rfl) (fun _ _ _ h => h) (Or.inl ⟨by rfl, ?_⟩) (by assumption) ?_
                · (intro W hSw; (try dsimp only at hSw); go_simp; try with_reducible rfl)
                try simp only [Act.put, List.setIfInBounds_toArray, List.set_cons_zero, List.set_cons_succ]
                refine wpAnyH_ready (rs := [18]) (by kernel_rfl) (by simp) ?_
                refine AllReadyH.cons (o := { dst := some 130, op := Go.Op.buildSlice 29 1 #[(0, Go.Operand.tmp 129)], type := 29, pos := "law.go:36", after := #[{ on := 17, ground := Go.Ground.data }], guard := none }) rfl (fun K hK => ?_) ?_
                · go_simp
                  refine hK.out _ _ ?_ (fun hHeld7 => ?_)
                  · try dsimp only
                    try exact trivial
                  clear hK K hHeld6
                  try simp only [Act.put, List.setIfInBounds_toArray, List.set_cons_zero, List.set_cons_succ]
                  refine wpAnyH_ready (rs := [19]) (by kernel_rfl) (by simp) ?_
                  refine AllReadyH.cons (o := { dst := some 131, op := Go.Op.call { callee := Go.Callee.builtin Go.Builtin.append, args := #[Go.Operand.tmp 114, Go.Operand.tmp 130], argTypes := #[29, 29] }, type := 29, pos := "law.go:36", after := #[{ on := 2, ground := Go.Ground.data }, { on := 18, ground := Go.Ground.data }, { on := 15, ground := Go.Ground.chain }], guard := none }) rfl (fun K hK => ?_) ?_
                  · (refine step_append_r _ rfl (.tmp 114) (.tmp 130) 29 rfl 6 72 (w.heap.size + 2) 67 i0 _ RV.stay (by decide) Tryd.underlying29 hi0 hz0 hz1 hz2 rfl (by omega) A1 n c1 hs (by simp [Act.eval, Act.put]) (ho1.call RV.stay ((Below.refl _ _).alloc (Nat.le_refl _) _)) (some ⟨w1.heap.size, 0, none⟩) 1 1 (by simp [Act.eval, Act.put]) [⟨(n : Int) + (j1 : Int), ⟨#[]⟩, ⟨#[]⟩, ⟨#[]⟩, (j2 : Int) - 1, (j3 : Int) / 4⟩] _ (Reads.litAt (cs := #[.int .i64 ((n : Int) + (j1 : Int)), .string ⟨#[]⟩, .string ⟨#[]⟩, .string ⟨#[]⟩, .int .i64 ((j2 : Int) - 1), .int .i64 ((j3 : Int) / 4)]) rfl rfl) (rv_lit ⟨(n : Int) + (j1 : Int), ⟨#[]⟩, ⟨#[]⟩, ⟨#[]⟩, (j2 : Int) - 1, (j3 : Int) / 4⟩) rfl ?_ ?_ ?_ ?_ ?_; (focus (simp [Value.oneCell'])); (focus (unfold maxLen; omega)); (focus omega); (focus (rw [size_alloc_]; omega)); intro A2 c2 w2 ho2 hg2; have kb2 : w2.heap[w.heap.size]? = _ := (hg2.b.block w.heap.size (by omega)).trans (heap_old kb1); have kr2 : w2.heap[w.heap.size + 1]? = _ := (hg2.b.block (w.heap.size + 1) (by omega)).trans (heap_old kr1); have hb2 : Below w.heap.size w w2 := (hb1.alloc (by omega) _).trans (hg2.b.mono (by omega)); have kq2 := Blk.cell kb2; have kqf2 := Blk.frozen kb2)
                    refine hK.out _ _ ?_ (fun hHeld8 => ?_)
                    · try dsimp only
                      try exact trivial
                    clear hK K hHeld7
                    try simp only [Act.put, List.setIfInBounds_toArray, List.set_cons_zero, List.set_cons_succ]
                    refine wpAnyH_take (i := 20) (oi := { dst := some 132, op := Go.Op.fieldAddr 31 (Go.Operand.tmp 3) 7, type := 0, pos := "law.go:36", after := #[{ on := 0, ground := Go.Ground.phase }, { on := 1, ground := Go.Ground.phase }, { on := 2, ground := Go.Ground.phase }, { on := 3, ground := Go.Ground.phase }, { on := 4, ground := Go.Ground.phase }, { on := 5, ground := Go.Ground.phase }, { on := 6, ground := Go.Ground.phase }, { on := 7, ground := Go.Ground.phase }, { on := 8, ground := Go.Ground.phase }, { on := 9, ground := Go.Ground.phase }, { on := 10, ground := Go.Ground.phase }, { on := 11, ground := Go.Ground.phase }, { on := 12, ground := Go.Ground.phase }, { on := 13, ground := Go.Ground.phase }, { on := 14, ground := Go.Ground.phase }, { on := 15, ground := Go.Ground.phase }, { on := 16, ground := Go.Ground.phase }, { on := 17, ground := Go.Ground.phase }, { on := 18, ground := Go.Ground.phase }, { on := 19, ground := Go.Ground.phase }], guard := none }) (v := .pointer (some ⟨w.heap.size, 9, none⟩)) rfl (by kernel_rfl) (by kernel_rfl) (by kernel_rfl) (fun _ _ _ h => h) (Or.inl ⟨by rfl, ?_⟩) (by assumption) ?_
                    · (intro W hSw; (try dsimp only at hSw); go_simp; try with_reducible rfl)
                    try simp only [Act.put, List.setIfInBounds_toArray, List.set_cons_zero, List.set_cons_succ]
                    refine wpAnyH_ready (rs := [21]) (by kernel_rfl) (by simp) ?_
                    refine AllReadyH.cons (o := { dst := none, op := Go.Op.store 29 (Go.Operand.tmp 132) (Go.Operand.tmp 131), type := 0, pos := "law.go:36", after := #[{ on := 20, ground := Go.Ground.data }, { on := 19, ground := Go.Ground.data }, { on := 19, ground := Go.Ground.chain }, { on := 0, ground := Go.Ground.phase }, { on := 1, ground := Go.Ground.phase }, { on := 2, ground := Go.Ground.phase }, { on := 3, ground := Go.Ground.phase }, { on := 4, ground := Go.Ground.phase }, { on := 5, ground := Go.Ground.phase }, { on := 6, ground := Go.Ground.phase }, { on := 7, ground := Go.Ground.phase }, { on := 8, ground := Go.Ground.phase }, { on := 9, ground := Go.Ground.phase }, { on := 10, ground := Go.Ground.phase }, { on := 11, ground := Go.Ground.phase }, { on := 12, ground := Go.Ground.phase }, { on := 13, ground := Go.Ground.phase }, { on := 14, ground := Go.Ground.phase }, { on := 15, ground := Go.Ground.phase }, { on := 16, ground := Go.Ground.phase }, { on := 17, ground := Go.Ground.phase }, { on := 18, ground := Go.Ground.phase }, { on := 19, ground := Go.Ground.phase }], guard := none }) rfl (fun K hK => ?_) ?_
                    · go_simp
                      refine hK.out _ _ ?_ (fun hHeld9 => ?_)
                      · try dsimp only
                        try exact trivial
                      clear hK K hHeld8
                      try simp only [Act.put, List.setIfInBounds_toArray, List.set_cons_zero, List.set_cons_succ]
                      refine wpAnyH_done (by kernel_rfl) ?_ _
                      rw [← j1e.out, ← j2e.out, ← j3e.out, ← HLN.out] at HC
                      have HNB : Hid (A2.map (·.block) ≠ some w.heap.size ∧ A2.map (·.block) ≠ some (w.heap.size + 1)) := Lib.hid ⟨fun hh => by have := (OwV.lt ho2 _ hh).1; omega, fun hh => by have := (OwV.lt ho2 _ hh).1; omega⟩
                      have HO2 := Lib.hid (OwV.st (i := 9) (u := .slice A2 (n + 1) c2) ho2 HNB.out.1)
                      have HWA := Lib.hid (show Lit.wf (.int .i64 ((n : Int) + (j1 : Int))) = true from WalkArith.wf_i64 (by omega))
                      have HWB := Lib.hid (show Lit.wf (.int .i64 ((j2 : Int) - 1)) = true from WalkArith.wf_i64 (by omega))
                      have HWC := Lib.hid (show Lit.wf (.int .i64 ((j3 : Int) / 4)) = true from WalkArith.wf_i64 (by omega))
                      have HWR : Hid (∀ r ∈ hs ++ [(⟨(n : Int) + (j1 : Int), ⟨#[]⟩, ⟨#[]⟩, ⟨#[]⟩, (j2 : Int) - 1, (j3 : Int) / 4⟩ : Rv)], RvWf r) := Lib.hid (fun r hr => by
                        rcases List.mem_append.1 hr with h | h
                        · exact HWF.out.hs r h
                        · simp only [List.mem_singleton] at h
                          subst h
                          exact ⟨HWA.out, Nat.zero_le _, Nat.zero_le _, Nat.zero_le _, HWB.out, HWC.out⟩)
                      clear ho2
                      have kw9 : (w2.setCell ⟨w.heap.size, 9, none⟩ (.slice A2 (n + 1) c2)).heap[w.heap.size]? = some (.cells #[.int .i64 kd, .string us, .string nt, .int .i64 ts, .string tn, .int .i64 os, .string on, .string tx, .int .i64 z, .slice A2 (n + 1) c2] 31 (0, 0)) := heap_set_near _ _ _ _ _ _ kb2
                      have kbs1 : (w2.setCell ⟨w.heap.size, 9, none⟩ (.slice A2 (n + 1) c2)).heap[w.heap.size]? = _ := kw9
                      have krs1 : (w2.setCell ⟨w.heap.size, 9, none⟩ (.slice A2 (n + 1) c2)).heap[w.heap.size + 1]? = _ := ((heap_set_far _ _ _ _ _ hne.symm).trans kr2)
                      have hbs1 : Below w.heap.size w (w2.setCell ⟨w.heap.size, 9, none⟩ (.slice A2 (n + 1) c2)) := (hb2.setCell (Nat.le_refl _) (.slice A2 (n + 1) c2))
                      clear kb2 kr2 hb2 kw9
                      go_upto_region 24 with fail
                      clear kq kqf kq1 kq2 kqf2
                      generalize (w2.setCell ⟨w.heap.size, 9, none⟩ (.slice A2 (n + 1) c2)) = y1 at *
                      have kcb := Blk.cell kbs1
                      have kfr := Blk.frozen krs1
                      have kcr0 := Blk.cell krs1
                      have kcz := Blk.cell (ten_kz krs1 (.int .i64 kd) (.string us) (.string nt) (.int .i64 ts) (.string tn) (.int .i64 os) (.string on) (.string tx) (.int .i64 z) (.slice A2 (n + 1) c2))
                      have HBF := Lib.hid (below_ten hbs1 (Nat.le_succ _) (.int .i64 kd) (.string us) (.string nt) (.int .i64 ts) (.string tn) (.int .i64 os) (.string on) (.string tx) (.int .i64 z) (.slice A2 (n + 1) c2))
                      have HOF := Lib.hid (OwV.ten HO2.out HNB.out.2 (.int .i64 kd) (.string us) (.string nt) (.int .i64 ts) (.string tn) (.int .i64 os) (.string on) (.string tx) (.int .i64 z) (.slice A2 (n + 1) c2))
                      clear kbs1 krs1 hbs1
                      go_wp2_with fail
                      refine bodyPost_ret (v := .agg #[.int .i64 kd, .string us, .string nt, .int .i64 ts, .string tn, .int .i64 os, .string on, .string tx, .int .i64 z, .slice A2 (n + 1) c2]) ?_ rfl ⟨⟨kd, us, nt, ts, tn, os, on, tx, z, hs ++ [⟨(n : Int) + (j1 : Int), ⟨#[]⟩, ⟨#[]⟩, ⟨#[]⟩, (j2 : Int) - 1, (j3 : Int) / 4⟩]⟩, A2, n + 1, c2, rfl, HOF.out.rd, OwV.ty HOF.out, ⟨HWF.out.kd, HWF.out.us, HWF.out.nt, HWF.out.ts, HWF.out.tn, HWF.out.os, HWF.out.on, HWF.out.tx, HWF.out.n, HWR.out⟩, HBF.out, HC.out⟩
                      simp [results, Tryd.results12, go_sem, kcz]
                    exact AllReadyH.nil
                  exact AllReadyH.nil
                exact AllReadyH.nil
              exact AllReadyH.nil
            exact AllReadyH.nil
          exact AllReadyH.nil
        exact AllReadyH.nil
      exact AllReadyH.nil
    refine AllReadyH.cons (o := { dst := some 116, op := Go.Op.load 29 (Go.Operand.tmp 115), type := 29, pos := "law.go:36", after := #[{ on := 3, ground := Go.Ground.data }], guard := none }) rfl (fun K hK => ?_) ?_
    · go_simp
      refine hK.out _ _ ?_ (fun hHeld1 => ?_)
      · try dsimp only
        try exact trivial
      clear hK K hHeld0
      try simp only [Act.put, List.setIfInBounds_toArray, List.set_cons_zero, List.set_cons_succ]
      refine wpAnyH_take (i := 5) (oi := { dst := some 117, op := Go.Op.call { callee := Go.Callee.builtin Go.Builtin.len, args := #[Go.Operand.tmp 116], argTypes := #[29] }, type := 3, pos := "law.go:36", after := #[{ on := 4, ground := Go.Ground.data }], guard := none }) (v := .int .i64 (n : Int)) rfl (by kernel_rfl) (by kernel_rfl) (by kernel_rfl) (fun _ _ _ h => h) (Or.inl ⟨by rfl, ?_⟩) (by assumption) ?_
      · (intro W hSw; (try dsimp only at hSw); go_simp; try with_reducible rfl)
      try simp only [Act.put, List.setIfInBounds_toArray, List.set_cons_zero, List.set_cons_succ]
      refine wpAnyH_ready (rs := [1]) (by kernel_rfl) (by simp) ?_
      refine AllReadyH.cons (o := { dst := some 113, op := Go.Op.load 29 (Go.Operand.tmp 112), type := 29, pos := "law.go:36", after := #[{ on := 0, ground := Go.Ground.data }], guard := none }) rfl (fun K hK => ?_) ?_
      · go_simp
        refine hK.out _ _ ?_ (fun hHeld2 => ?_)
        · try dsimp only
          try exact trivial
        clear hK K hHeld1
        try simp only [Act.put, List.setIfInBounds_toArray, List.set_cons_zero, List.set_cons_succ]
        refine wpAnyH_ready (rs := [2]) (by kernel_rfl) (by simp) ?_
        refine AllReadyH.cons (o := { dst := some 114, op := Go.Op.call { callee := Go.Callee.builtin Go.Builtin.append, args := #[Go.Operand.const (Go.Value.slice none 0 0), Go.Operand.tmp 113], argTypes := #[29, 29] }, type := 29, pos := "law.go:36", after := #[{ on := 1, ground := Go.Ground.data }], guard := none }) rfl (fun K hK => ?_) ?_
        · (refine step_append_r _ rfl (.const (.slice none 0 0)) (.tmp 113) 29 rfl 6 72 (w.heap.size + 2) 67 i0 _ RV.stay (by decide) Tryd.underlying29 hi0 hz0 hz1 hz2 rfl (by omega) none 0 0 [] rfl (OwR.nil _ _ _ _ _) A n cp rfl hs (rcells hs) HRW.out (fits_rcells _ _) HLN.out (rcells_one _) ?_ ?_ ?_ ?_; (focus (unfold maxLen; omega)); (focus omega); (focus exact hyz); intro A1 c1 w1 ho1 hg1; rw [Nat.zero_add, List.nil_append] at ho1; rw [Nat.zero_add]; have kb1 : w1.heap[w.heap.size]? = _ := (hg1.b.block w.heap.size (by omega)).trans kb; have kr1 : w1.heap[w.heap.size + 1]? = _ := (hg1.b.block (w.heap.size + 1) (by omega)).trans kr; have hb1 : Below w.heap.size w w1 := (below_drw hb0).trans (hg1.b.mono (by omega)); have kq1 := Blk.cell kb1; have hsz1 : w.heap.size + 2 ≤ w1.heap.size := Nat.le_trans hyz hg1.b.size)
          refine hK.out _ _ ?_ (fun hHeld3 => ?_)
          · try dsimp only
            try exact trivial
          clear hK K hHeld2
          try simp only [Act.put, List.setIfInBounds_toArray, List.set_cons_zero, List.set_cons_succ]
          refine wpAnyH_ready (rs := [7]) (by kernel_rfl) (by simp) ?_
          refine AllReadyH.cons (o := { dst := some 119, op := Go.Op.call { callee := Go.Callee.value (Go.Operand.func 17), args := #[Go.Operand.tmp 118, Go.Operand.const (Go.Value.int Go.IntKind.i64 3)], argTypes := #[3, 3] }, type := 3, pos := "law.go:36", after := #[{ on := 6, ground := Go.Ground.data }, { on := 2, ground := Go.Ground.chain }], guard := none }) rfl (fun K hK => ?_) ?_
          · go_simp
            (go_at_call 17; refine (HRB.out _ 3 _ (by omega) (by omega)).mono ?_; rintro e wn ⟨j1, rfl, j1b, hwn, j1e⟩; obtain rfl := hwn.symm; clear hwn; have hx1 : IntKind.i64.wrap ((n : Int) + (j1 : Int)) = (n : Int) + (j1 : Int) := by rw [IntKind.wrap_i64]; omega)
            try go_wp2_with fail
            refine hK.out _ _ ?_ (fun hHeld4 => ?_)
            · try dsimp only
              try exact trivial
            clear hK K hHeld3
            try simp only [Act.put, List.setIfInBounds_toArray, List.set_cons_zero, List.set_cons_succ]
            refine wpAnyH_take (i := 8) (oi := { dst := some 120, op := Go.Op.binOp Go.BinOp.add 3 (Go.Operand.tmp 117) (Go.Operand.tmp 119) 3, type := 3, pos := "law.go:36", after := #[{ on := 5, ground := Go.Ground.data }, { on := 7, ground := Go.Ground.data }], guard := none }) (v := .int .i64 ((n : Int) + (j1 : Int))) rfl (by kernel_rfl) (by kernel_rfl) (by kernel_rfl) (fun _ _ _ h => h) (Or.inl ⟨by rfl, ?_⟩) (by assumption) ?_
            · (intro W hSw; (try dsimp only at hSw); go_simp; try with_reducible rfl)
            try simp only [Act.put, List.setIfInBounds_toArray, List.set_cons_zero, List.set_cons_succ]
            refine wpAnyH_ready (rs := [11]) (by kernel_rfl) (by simp) ?_
            refine AllReadyH.cons (o := { dst := some 123, op := Go.Op.call { callee := Go.Callee.value (Go.Operand.func 17), args := #[Go.Operand.tmp 122, Go.Operand.const (Go.Value.int Go.IntKind.i64 4)], argTypes := #[3, 3] }, type := 3, pos := "law.go:36", after := #[{ on := 10, ground := Go.Ground.data }, { on := 7, ground := Go.Ground.chain }], guard := none }) rfl (fun K hK => ?_) ?_
            · go_simp
              (go_at_call 17; refine (HRB.out _ 4 _ (by omega) (by omega)).mono ?_; rintro e wn ⟨j2, rfl, j2b, hwn, j2e⟩; obtain rfl := hwn.symm; clear hwn; have hx2 : IntKind.i64.wrap ((j2 : Int) - 1) = (j2 : Int) - 1 := by rw [IntKind.wrap_i64]; omega)
              try go_wp2_with fail
              refine hK.out _ _ ?_ (fun hHeld5 => ?_)
              · try dsimp only
                try exact trivial
              clear hK K hHeld4
              try simp only [Act.put, List.setIfInBounds_toArray, List.set_cons_zero, List.set_cons_succ]
              refine wpAnyH_take (i := 12) (oi := { dst := some 124, op := Go.Op.binOp Go.BinOp.sub 3 (Go.Operand.tmp 123) (Go.Operand.const (Go.Value.int Go.IntKind.i64 1)) 3, type := 3, pos := "law.go:36", after := #[{ on := 11, ground := Go.Ground.data }], guard := none }) (v := .int .i64 ((j2 : Int) - 1)) rfl (by kernel_rfl) (by kernel_rfl) (by kernel_rfl) (fun _ _ _ h => h) (Or.inl ⟨by rfl, ?_⟩) (by assumption) ?_
              · (intro W hSw; (try dsimp only at hSw); go_simp; try with_reducible rfl)
              try simp only [Act.put, List.setIfInBounds_toArray, List.set_cons_zero, List.set_cons_succ]
              refine wpAnyH_ready (rs := [15]) (by kernel_rfl) (by simp) ?_
              refine AllReadyH.cons (o := { dst := some 127, op := Go.Op.call { callee := Go.Callee.value (Go.Operand.func 17), args := #[Go.Operand.tmp 126, Go.Operand.const (Go.Value.int Go.IntKind.i64 5)], argTypes := #[3, 3] }, type := 3, pos := "law.go:36", after := #[{ on := 14, ground := Go.Ground.data }, { on := 11, ground := Go.Ground.chain }], guard := none }) rfl (fun K hK => ?_) ?_
              · go_simp
                (go_at_call 17; refine (HRB.out _ 5 _ (by omega) (by omega)).mono ?_; rintro e wn ⟨j3, rfl, j3b, hwn, j3e⟩; obtain rfl := hwn.symm; clear hwn; have hx3 : IntKind.i64.wrap ((j3 : Int) / 4) = (j3 : Int) / 4 := by rw [IntKind.wrap_i64]; omega)
                try go_wp2_with fail
                refine hK.out _ _ ?_ (fun hHeld6 => ?_)
                · try dsimp only
                  try exact trivial
                clear hK K hHeld5
                try simp only [Act.put, List.setIfInBounds_toArray, List.set_cons_zero, List.set_cons_succ]
                refine wpAnyH_take (i := 16) (oi := { dst := some 128, op := Go.Op.binOp Go.BinOp.quo 3 (Go.Operand.tmp 127) (Go.Operand.const (Go.Value.int Go.IntKind.i64 4)) 3, type := 3, pos := "law.go:36", after := #[{ on := 15, ground := Go.Ground.data }], guard := none }) (v := .int .i64 ((j3 : Int) / 4)) rfl (by kernel_rfl) (by kernel_rfl) (by kernel_rfl) (fun _ _ _ h => h) (Or.inl ⟨by rfl, ?_⟩) (by assumption) ?_
                · (intro W hSw; (try dsimp only at hSw); go_simp; try with_reducible rfl)
                try simp only [Act.put, List.setIfInBounds_toArray, List.set_cons_zero, List.set_cons_succ]
                refine wpAnyH_take (i := 17) (oi := { dst := some 129, op := Go.Op.build 67 #[(0, Go.Operand.tmp 120), (4, Go.Operand.tmp 124), (5, Go.Operand.tmp 128)], type := 67, pos := "law.go:36", after := #[{ on := 8, ground := Go.Ground.data }, { on := 12, ground := Go.Ground.data }, { on := 16, ground := Go.Ground.data }], guard := none }) (v := .agg #[.int .i64 ((n : Int) + (j1 : Int)), .string ⟨#[]⟩, .string ⟨#[]⟩, .string ⟨#[]⟩, .int .i64 ((j2 : Int) - 1), .int .i64 ((j3 : Int) / 4)]) rfl (by kernel_rfl) (by kernel_rfl) (by kernel_rfl) (fun _ _ _ h => h) (Or.inl ⟨by rfl, ?_⟩) (by assumption) ?_
                · (intro W hSw; (try dsimp only at hSw); go_simp; try with_reducible rfl)
                try simp only [Act.put, List.setIfInBounds_toArray, List.set_cons_zero, List.set_cons_succ]
                refine wpAnyH_ready (rs := [18]) (by kernel_rfl) (by simp) ?_
                refine AllReadyH.cons (o := { dst := some 130, op := Go.Op.buildSlice 29 1 #[(0, Go.Operand.tmp 129)], type := 29, pos := "law.go:36", after := #[{ on := 17, ground := Go.Ground.data }], guard := none }) rfl (fun K hK => ?_) ?_
                · go_simp
                  refine hK.out _ _ ?_ (fun hHeld7 => ?_)
                  · try dsimp only
                    try exact trivial
                  clear hK K hHeld6
                  try simp only [Act.put, List.setIfInBounds_toArray, List.set_cons_zero, List.set_cons_succ]
                  refine wpAnyH_ready (rs := [19]) (by kernel_rfl) (by simp) ?_
                  refine AllReadyH.cons (o := { dst := some 131, op := Go.Op.call { callee := Go.Callee.builtin Go.Builtin.append, args := #[Go.Operand.tmp 114, Go.Operand.tmp 130], argTypes := #[29, 29] }, type := 29, pos := "law.go:36", after := #[{ on := 2, ground := Go.Ground.data }, { on := 18, ground := Go.Ground.data }, { on := 15, ground := Go.Ground.chain }], guard := none }) rfl (fun K hK => ?_) ?_
                  · (refine step_append_r _ rfl (.tmp 114) (.tmp 130) 29 rfl 6 72 (w.heap.size + 2) 67 i0 _ RV.stay (by decide) Tryd.underlying29 hi0 hz0 hz1 hz2 rfl (by omega) A1 n c1 hs (by simp [Act.eval, Act.put]) (ho1.call RV.stay ((Below.refl _ _).alloc (Nat.le_refl _) _)) (some ⟨w1.heap.size, 0, none⟩) 1 1 (by simp [Act.eval, Act.put]) [⟨(n : Int) + (j1 : Int), ⟨#[]⟩, ⟨#[]⟩, ⟨#[]⟩, (j2 : Int) - 1, (j3 : Int) / 4⟩] _ (Reads.litAt (cs := #[.int .i64 ((n : Int) + (j1 : Int)), .string ⟨#[]⟩, .string ⟨#[]⟩, .string ⟨#[]⟩, .int .i64 ((j2 : Int) - 1), .int .i64 ((j3 : Int) / 4)]) rfl rfl) (rv_lit ⟨(n : Int) + (j1 : Int), ⟨#[]⟩, ⟨#[]⟩, ⟨#[]⟩, (j2 : Int) - 1, (j3 : Int) / 4⟩) rfl ?_ ?_ ?_ ?_ ?_; (focus (simp [Value.oneCell'])); (focus (unfold maxLen; omega)); (focus omega); (focus (rw [size_alloc_]; omega)); intro A2 c2 w2 ho2 hg2; have kb2 : w2.heap[w.heap.size]? = _ := (hg2.b.block w.heap.size (by omega)).trans (heap_old kb1); have kr2 : w2.heap[w.heap.size + 1]? = _ := (hg2.b.block (w.heap.size + 1) (by omega)).trans (heap_old kr1); have hb2 : Below w.heap.size w w2 := (hb1.alloc (by omega) _).trans (hg2.b.mono (by omega)); have kq2 := Blk.cell kb2; have kqf2 := Blk.frozen kb2)
                    refine hK.out _ _ ?_ (fun hHeld8 => ?_)
                    · try dsimp only
                      try exact trivial
                    clear hK K hHeld7
                    try simp only [Act.put, List.setIfInBounds_toArray, List.set_cons_zero, List.set_cons_succ]
                    refine wpAnyH_take (i := 20) (oi := { dst := some 132, op := Go.Op.fieldAddr 31 (Go.Operand.tmp 3) 7, type := 0, pos := "law.go:36", after := #[{ on := 0, ground := Go.Ground.phase }, { on := 1, ground := Go.Ground.phase }, { on := 2, ground := Go.Ground.phase }, { on := 3, ground := Go.Ground.phase }, { on := 4, ground := Go.Ground.phase }, { on := 5, ground := Go.Ground.phase }, { on := 6, ground := Go.Ground.phase }, { on := 7, ground := Go.Ground.phase }, { on := 8, ground := Go.Ground.phase }, { on := 9, ground := Go.Ground.phase }, { on := 10, ground := Go.Ground.phase }, { on := 11, ground := Go.Ground.phase }, { on := 12, ground := Go.Ground.phase }, { on := 13, ground := Go.Ground.phase }, { on := 14, ground := Go.Ground.phase }, { on := 15, ground := Go.Ground.phase }, { on := 16, ground := Go.Ground.phase }, { on := 17, ground := Go.Ground.phase }, { on := 18, ground := Go.Ground.phase }, { on := 19, ground := Go.Ground.phase }], guard := none }) (v := .pointer (some ⟨w.heap.size, 9, none⟩)) rfl (by kernel_rfl) (by kernel_rfl) (by kernel_rfl) (fun _ _ _ h => h) (Or.inl ⟨by rfl, ?_⟩) (by assumption) ?_
                    · (intro W hSw; (try dsimp only at hSw); go_simp; try with_reducible rfl)
                    try simp only [Act.put, List.setIfInBounds_toArray, List.set_cons_zero, List.set_cons_succ]
                    refine wpAnyH_ready (rs := [21]) (by kernel_rfl) (by simp) ?_
                    refine AllReadyH.cons (o := { dst := none, op := Go.Op.store 29 (Go.Operand.tmp 132) (Go.Operand.tmp 131), type := 0, pos := "law.go:36", after := #[{ on := 20, ground := Go.Ground.data }, { on := 19, ground := Go.Ground.data }, { on := 19, ground := Go.Ground.chain }, { on := 0, ground := Go.Ground.phase }, { on := 1, ground := Go.Ground.phase }, { on := 2, ground := Go.Ground.phase }, { on := 3, ground := Go.Ground.phase }, { on := 4, ground := Go.Ground.phase }, { on := 5, ground := Go.Ground.phase }, { on := 6, ground := Go.Ground.phase }, { on := 7, ground := Go.Ground.phase }, { on := 8, ground := Go.Ground.phase }, { on := 9, ground := Go.Ground.phase }, { on := 10, ground := Go.Ground.phase }, { on := 11, ground := Go.Ground.phase }, { on := 12, ground := Go.Ground.phase }, { on := 13, ground := Go.Ground.phase }, { on := 14, ground := Go.Ground.phase }, { on := 15, ground := Go.Ground.phase }, { on := 16, ground := Go.Ground.phase }, { on := 17, ground := Go.Ground.phase }, { on := 18, ground := Go.Ground.phase }, { on := 19, ground := Go.Ground.phase }], guard := none }) rfl (fun K hK => ?_) ?_
                    · go_simp
                      refine hK.out _ _ ?_ (fun hHeld9 => ?_)
                      · try dsimp only
                        try exact trivial
                      clear hK K hHeld8
                      try simp only [Act.put, List.setIfInBounds_toArray, List.set_cons_zero, List.set_cons_succ]
                      refine wpAnyH_done (by kernel_rfl) ?_ _
                      rw [← j1e.out, ← j2e.out, ← j3e.out, ← HLN.out] at HC
                      have HNB : Hid (A2.map (·.block) ≠ some w.heap.size ∧ A2.map (·.block) ≠ some (w.heap.size + 1)) := Lib.hid ⟨fun hh => by have := (OwV.lt ho2 _ hh).1; omega, fun hh => by have := (OwV.lt ho2 _ hh).1; omega⟩
                      have HO2 := Lib.hid (OwV.st (i := 9) (u := .slice A2 (n + 1) c2) ho2 HNB.out.1)
                      have HWA := Lib.hid (show Lit.wf (.int .i64 ((n : Int) + (j1 : Int))) = true from WalkArith.wf_i64 (by omega))
                      have HWB := Lib.hid (show Lit.wf (.int .i64 ((j2 : Int) - 1)) = true from WalkArith.wf_i64 (by omega))
                      have HWC := Lib.hid (show Lit.wf (.int .i64 ((j3 : Int) / 4)) = true from WalkArith.wf_i64 (by omega))
                      have HWR : Hid (∀ r ∈ hs ++ [(⟨(n : Int) + (j1 : Int), ⟨#[]⟩, ⟨#[]⟩, ⟨#[]⟩, (j2 : Int) - 1, (j3 : Int) / 4⟩ : Rv)], RvWf r) := Lib.hid (fun r hr => by
                        rcases List.mem_append.1 hr with h | h
                        · exact HWF.out.hs r h
                        · simp only [List.mem_singleton] at h
                          subst h
                          exact ⟨HWA.out, Nat.zero_le _, Nat.zero_le _, Nat.zero_le _, HWB.out, HWC.out⟩)
                      clear ho2
                      have kw9 : (w2.setCell ⟨w.heap.size, 9, none⟩ (.slice A2 (n + 1) c2)).heap[w.heap.size]? = some (.cells #[.int .i64 kd, .string us, .string nt, .int .i64 ts, .string tn, .int .i64 os, .string on, .string tx, .int .i64 z, .slice A2 (n + 1) c2] 31 (0, 0)) := heap_set_near _ _ _ _ _ _ kb2
                      have kbs1 : (w2.setCell ⟨w.heap.size, 9, none⟩ (.slice A2 (n + 1) c2)).heap[w.heap.size]? = _ := kw9
                      have krs1 : (w2.setCell ⟨w.heap.size, 9, none⟩ (.slice A2 (n + 1) c2)).heap[w.heap.size + 1]? = _ := ((heap_set_far _ _ _ _ _ hne.symm).trans kr2)
                      have hbs1 : Below w.heap.size w (w2.setCell ⟨w.heap.size, 9, none⟩ (.slice A2 (n + 1) c2)) := (hb2.setCell (Nat.le_refl _) (.slice A2 (n + 1) c2))
                      clear kb2 kr2 hb2 kw9
                      go_upto_region 24 with fail
                      clear kq kqf kq1 kq2 kqf2
                      generalize (w2.setCell ⟨w.heap.size, 9, none⟩ (.slice A2 (n + 1) c2)) = y1 at *
                      have kcb := Blk.cell kbs1
                      have kfr := Blk.frozen krs1
                      have kcr0 := Blk.cell krs1
                      have kcz := Blk.cell (ten_kz krs1 (.int .i64 kd) (.string us) (.string nt) (.int .i64 ts) (.string tn) (.int .i64 os) (.string on) (.string tx) (.int .i64 z) (.slice A2 (n + 1) c2))
                      have HBF := Lib.hid (below_ten hbs1 (Nat.le_succ _) (.int .i64 kd) (.string us) (.string nt) (.int .i64 ts) (.string tn) (.int .i64 os) (.string on) (.string tx) (.int .i64 z) (.slice A2 (n + 1) c2))
                      have HOF := Lib.hid (OwV.ten HO2.out HNB.out.2 (.int .i64 kd) (.string us) (.string nt) (.int .i64 ts) (.string tn) (.int .i64 os) (.string on) (.string tx) (.int .i64 z) (.slice A2 (n + 1) c2))
                      clear kbs1 krs1 hbs1
                      go_wp2_with fail
                      refine bodyPost_ret (v := .agg #[.int .i64 kd, .string us, .string nt, .int .i64 ts, .string tn, .int .i64 os, .string on, .string tx, .int .i64 z, .slice A2 (n + 1) c2]) ?_ rfl ⟨⟨kd, us, nt, ts, tn, os, on, tx, z, hs ++ [⟨(n : Int) + (j1 : Int), ⟨#[]⟩, ⟨#[]⟩, ⟨#[]⟩, (j2 : Int) - 1, (j3 : Int) / 4⟩]⟩, A2, n + 1, c2, rfl, HOF.out.rd, OwV.ty HOF.out, ⟨HWF.out.kd, HWF.out.us, HWF.out.nt, HWF.out.ts, HWF.out.tn, HWF.out.os, HWF.out.on, HWF.out.tx, HWF.out.n, HWR.out⟩, HBF.out, HC.out⟩
                      simp [results, Tryd.results12, go_sem, kcz]
                    exact AllReadyH.nil
                  exact AllReadyH.nil
                exact AllReadyH.nil
              exact AllReadyH.nil
            exact AllReadyH.nil
          exact AllReadyH.nil
        exact AllReadyH.nil
      exact AllReadyH.nil
    exact AllReadyH.nil
  · replace HC : Hid ((⟨kd, us, nt, ts, tn, os, on, tx, z, alH hs x⟩ : Cg) = C) := Lib.hid HC.out
    have kq := Blk.cell kb
    have kqf := Blk.frozen kb
    by_cases h0 : n = 0
    · have kq := Blk.cell kb
      have kqf := Blk.frozen kb
      rw [alH_nil x HLN.out h0] at HC
      have z1 : ¬ (0 : Int) < (n : Int) := by omega
      clear h0
      go_upto_region 24 with fail
      clear kq kqf
      have kcb := Blk.cell kb
      have kfr := Blk.frozen kr
      have kcr0 := Blk.cell kr
      have kcz := Blk.cell (ten_kz kr (.int .i64 kd) (.string us) (.string nt) (.int .i64 ts) (.string tn) (.int .i64 os) (.string on) (.string tx) (.int .i64 z) (.slice A n cp))
      have HBF := Lib.hid (below_ten hb0 (Nat.le_succ _) (.int .i64 kd) (.string us) (.string nt) (.int .i64 ts) (.string tn) (.int .i64 os) (.string on) (.string tx) (.int .i64 z) (.slice A n cp))
      clear kb kr hb0
      go_wp2_with fail
      refine bodyPost_ret (v := .agg #[.int .i64 kd, .string us, .string nt, .int .i64 ts, .string tn, .int .i64 os, .string on, .string tx, .int .i64 z, .slice A n cp]) ?_ rfl ⟨⟨kd, us, nt, ts, tn, os, on, tx, z, hs⟩, A, n, cp, rfl, RdV.below HRD.out HBF.out, HTY.out.below HBF.out, ⟨HWF.out.kd, HWF.out.us, HWF.out.nt, HWF.out.ts, HWF.out.tn, HWF.out.os, HWF.out.on, HWF.out.tx, HWF.out.n, HWF.out.hs⟩, HBF.out, HC.out⟩
      simp [results, Tryd.results12, go_sem, kcz]
    · rw [alH_pos x HLN.out (by omega)] at HC
      have z1 : (0 : Int) < (n : Int) := by omega
      clear h0
      have hyz : w.heap.size + 2 ≤ y0.heap.size := Blk.lt kr
      have HRW := Lib.hid (RdW.vals (RdV.below HRD.out hb0))
      go_upto_region 5 with (at_builtin; go_must (refine wpList_append_r _ rfl (.const (.slice none 0 0)) (.tmp 17) 29 rfl 6 72 (w.heap.size + 2) 67 i0 _ RV.stay (by decide) Tryd.underlying29 hi0 hz0 hz1 hz2 rfl (by omega) none 0 0 [] rfl (OwR.nil _ _ _ _ _) A n cp rfl hs (rcells hs) HRW.out (fits_rcells _ _) HLN.out (rcells_one _) ?_ ?_ ?_ ?_; (focus (unfold maxLen; omega)); (focus omega); (focus exact hyz); intro A1 c1 w1 ho1 hg1; rw [Nat.zero_add, List.nil_append] at ho1; rw [Nat.zero_add]; have kb1 : w1.heap[w.heap.size]? = _ := (hg1.b.block w.heap.size (by omega)).trans kb; have kr1 : w1.heap[w.heap.size + 1]? = _ := (hg1.b.block (w.heap.size + 1) (by omega)).trans kr; have hb1 : Below w.heap.size w w1 := hb0.trans (hg1.b.mono (by omega)); have kq1 := Blk.cell kb1; have kqf1 := Blk.frozen kb1))
      have hneA : A1.map (·.block) ≠ some w.heap.size := fun hh => by have := (OwV.lt ho1 _ hh).1; omega
      have ho2 := OwV.st (i := 9) (u := .slice A1 n c1) ho1 hneA
      have kb2 : (w1.setCell ⟨w.heap.size, 9, none⟩ (.slice A1 n c1)).heap[w.heap.size]? = some (.cells #[.int .i64 kd, .string us, .string nt, .int .i64 ts, .string tn, .int .i64 os, .string on, .string tx, .int .i64 z, .slice A1 n c1] 31 (0, 0)) := heap_set_near _ _ _ _ _ _ kb1
      have kr2 : (w1.setCell ⟨w.heap.size, 9, none⟩ (.slice A1 n c1)).heap[w.heap.size + 1]? = _ := (heap_set_far _ _ _ _ _ hne.symm).trans kr1
      have hb2 : Below w.heap.size w (w1.setCell ⟨w.heap.size, 9, none⟩ (.slice A1 n c1)) := hb1.setCell (Nat.le_refl _) _
      clear kq kqf kq1 kqf1 kb1 kr1 hb1 ho1 hg1 kb kr hb0 hneA
      generalize w1.setCell ⟨w.heap.size, 9, none⟩ (.slice A1 n c1) = w2 at *
      obtain ⟨gr, og, rfl, hgr, hcc⟩ := RdV.opened ho2.rd (by omega)
      have HOG : og = 0 ∧ w.heap.size + 2 ≤ gr := by
        rcases (OwW.vals ho2).2 with ⟨e1, e2⟩ | ⟨g5, cap, cur, hv, hbb, hh, _⟩
        · injection e1 with e1; cases e1
        · injection hv with e1; injection e1 with e1; injection e1 with e1 e2; subst e1; exact ⟨e2, hbb⟩
      obtain ⟨rfl, hgb⟩ := HOG
      have hj0 : 0 ≤ x % (n : Int) := Int.emod_nonneg _ (by omega)
      have hj1 : x % (n : Int) < (n : Int) := Int.emod_lt_of_pos _ (by omega)
      have HR := Lib.hid (fun W => round_any x (n : Int) W (by omega) (by omega))
      generalize x % (n : Int) = j at *
      obtain ⟨j, rfl⟩ := Int.eq_ofNat_of_zero_le hj0
      have hjn : j < n := by omega
      simp only [Int.toNat_natCast] at HC
      obtain ⟨q0, q1, q2, q3, q4, q5⟩ := hcc j hjn
      rw [Nat.zero_add] at q0 q1 q2 q3 q4 q5
      have HRW2 := Lib.hid (rvwf_getD HWF.out.hs (j := j) (by rw [← HLN.out]; exact hjn))
      generalize hs.getD j rv0 = r at *
      clear hcc hj0 hj1
      have hbl2 := Blk.lt kb2
      have hKK : Hid (∀ W, Bel w2.heap.size w2 W → W.cell? ⟨w.heap.size, 9, none⟩ = some (.slice (some ⟨gr, 0, none⟩) n c1) ∧ W.cell? ⟨gr, j * 6, none⟩ = some (.int .i64 r.num) ∧ W.cell? ⟨gr, j * 6 + 1, none⟩ = some (.string r.us) ∧ W.cell? ⟨gr, j * 6 + 2, none⟩ = some (.string r.nt) ∧ W.cell? ⟨gr, j * 6 + 3, none⟩ = some (.string r.tx) ∧ W.cell? ⟨gr, j * 6 + 4, none⟩ = some (.int .i64 r.mi) ∧ W.cell? ⟨gr, j * 6 + 5, none⟩ = some (.int .i64 r.sq)) := Lib.hid fun W hW => ⟨(hW.2.cell (p := ⟨w.heap.size, 9, none⟩) hbl2).trans (Blk.cell kb2 9), (hW.2.cell (p := ⟨gr, j * 6, none⟩) hgr).trans q0, (hW.2.cell (p := ⟨gr, j * 6 + 1, none⟩) hgr).trans q1, (hW.2.cell (p := ⟨gr, j * 6 + 2, none⟩) hgr).trans q2, (hW.2.cell (p := ⟨gr, j * 6 + 3, none⟩) hgr).trans q3, (hW.2.cell (p := ⟨gr, j * 6 + 4, none⟩) hgr).trans q4, (hW.2.cell (p := ⟨gr, j * 6 + 5, none⟩) hgr).trans q5⟩
      refine wp_region_held_drew (S := fun W => W.cell? ⟨w.heap.size, 9, none⟩ = some (.slice (some ⟨gr, 0, none⟩) n c1) ∧ W.cell? ⟨gr, j * 6, none⟩ = some (.int .i64 r.num) ∧ W.cell? ⟨gr, j * 6 + 1, none⟩ = some (.string r.us) ∧ W.cell? ⟨gr, j * 6 + 2, none⟩ = some (.string r.nt) ∧ W.cell? ⟨gr, j * 6 + 3, none⟩ = some (.string r.tx) ∧ W.cell? ⟨gr, j * 6 + 4, none⟩ = some (.int .i64 r.mi) ∧ W.cell? ⟨gr, j * 6 + 5, none⟩ = some (.int .i64 r.sq)) (by kernel_rfl) ?_ (fun hHeld0 => ?_)
      · try dsimp only
        first | (refine hKK.out _ ?_; (focus (repeat' first | (with_reducible refine bel_refl ?_) | with_reducible assumption | with_reducible refine bel_drew ?_ | with_reducible refine bel_drewN _ ?_ | with_reducible refine bel_alloc _ ?_ | with_reducible refine bel_set ?_ _ ?_ | (with_reducible apply bel_call; with_reducible assumption) | (with_reducible apply bel_owg; with_reducible assumption; (focus omega)) | with_reducible exact Nat.le_refl _ | omega | (simp; done) | (simp; omega))); done) | go_keep
      refine wpAnyH_take (i := 0) (oi := { dst := some 20, op := Go.Op.fieldAddr 31 (Go.Operand.tmp 3) 7, type := 0, pos := "law.go:40", after := #[], guard := none }) (v := .pointer (some ⟨w.heap.size, 9, none⟩)) rfl (by kernel_rfl) (by kernel_rfl) (by kernel_rfl) (fun _ _ _ h => h) (Or.inl ⟨by rfl, ?_⟩) (by assumption) ?_
      · (intro W hSw; (try dsimp only at hSw); go_simp; try with_reducible rfl)
      try simp only [Act.put, List.setIfInBounds_toArray, List.set_cons_zero, List.set_cons_succ]
      refine wpAnyH_take (i := 1) (oi := { dst := some 21, op := Go.Op.load 29 (Go.Operand.tmp 20), type := 29, pos := "law.go:40", after := #[{ on := 0, ground := Go.Ground.data }], guard := none }) (v := .slice (some ⟨gr, 0, none⟩) n c1) rfl (by kernel_rfl) (by kernel_rfl) (by kernel_rfl) (fun _ _ _ h => h) (Or.inl ⟨by rfl, ?_⟩) (by assumption) ?_
      · (intro W hSw; (try dsimp only at hSw); go_simp; try with_reducible rfl)
      try simp only [Act.put, List.setIfInBounds_toArray, List.set_cons_zero, List.set_cons_succ]
      refine wpAnyH_take (i := 2) (oi := { dst := some 22, op := Go.Op.move (Go.Operand.tmp 2), type := 3, pos := "law.go:40", after := #[], guard := none }) (v := .int .i64 x) rfl (by kernel_rfl) (by kernel_rfl) (by kernel_rfl) (fun _ _ _ h => h) (Or.inl ⟨by rfl, ?_⟩) (by assumption) ?_
      · (intro W hSw; (try dsimp only at hSw); go_simp; try with_reducible rfl)
      try simp only [Act.put, List.setIfInBounds_toArray, List.set_cons_zero, List.set_cons_succ]
      refine wpAnyH_take (i := 3) (oi := { dst := some 23, op := Go.Op.move (Go.Operand.tmp 7), type := 3, pos := "law.go:40", after := #[], guard := none }) (v := .int .i64 (n : Int)) rfl (by kernel_rfl) (by kernel_rfl) (by kernel_rfl) (fun _ _ _ h => h) (Or.inl ⟨by rfl, ?_⟩) (by assumption) ?_
      · (intro W hSw; (try dsimp only at hSw); go_simp; try with_reducible rfl)
      try simp only [Act.put, List.setIfInBounds_toArray, List.set_cons_zero, List.set_cons_succ]
      refine wpAnyH_ready (rs := [4, 7]) (by kernel_rfl) (by simp) ?_
      refine AllReadyH.cons (o := { dst := some 24, op := Go.Op.call { callee := Go.Callee.value (Go.Operand.func 17), args := #[Go.Operand.tmp 22, Go.Operand.tmp 23], argTypes := #[3, 3] }, type := 3, pos := "law.go:40", after := #[{ on := 2, ground := Go.Ground.data }, { on := 3, ground := Go.Ground.data }], guard := none }) rfl (fun K hK => ?_) ?_
      · go_simp
        (go_at_call 17; refine (HR.out _).mono ?_; rintro e wn ⟨rfl, hwn⟩; obtain rfl := hwn.symm; clear hwn)
        try go_wp2_with fail
        refine hK.out _ _ ?_ (fun hHeld1 => ?_)
        · try dsimp only
          first | (refine hKK.out _ ?_; (focus (repeat' first | (with_reducible refine bel_refl ?_) | with_reducible assumption | with_reducible refine bel_drew ?_ | with_reducible refine bel_drewN _ ?_ | with_reducible refine bel_alloc _ ?_ | with_reducible refine bel_set ?_ _ ?_ | (with_reducible apply bel_call; with_reducible assumption) | (with_reducible apply bel_owg; with_reducible assumption; (focus omega)) | with_reducible exact Nat.le_refl _ | omega | (simp; done) | (simp; omega))); done) | go_keep
        clear hK K hHeld0
        try simp only [Act.put, List.setIfInBounds_toArray, List.set_cons_zero, List.set_cons_succ]
        refine wpAnyH_take (i := 5) (oi := { dst := some 25, op := Go.Op.indexAddr 29 (Go.Operand.tmp 21) (Go.Operand.tmp 24), type := 0, pos := "law.go:40", after := #[{ on := 1, ground := Go.Ground.data }, { on := 4, ground := Go.Ground.data }], guard := none }) (v := .pointer (some ⟨gr, j * 6, none⟩)) rfl (by kernel_rfl) (by kernel_rfl) (by kernel_rfl) (fun _ _ _ h => h) (Or.inl ⟨by rfl, ?_⟩) (by assumption) ?_
        · (intro W hSw; (try dsimp only at hSw); go_simp; try with_reducible rfl)
        try simp only [Act.put, List.setIfInBounds_toArray, List.set_cons_zero, List.set_cons_succ]
        refine wpAnyH_take (i := 6) (oi := { dst := some 26, op := Go.Op.load 67 (Go.Operand.tmp 25), type := 67, pos := "law.go:40", after := #[{ on := 5, ground := Go.Ground.data }], guard := none }) (v := .agg #[.int .i64 r.num, .string r.us, .string r.nt, .string r.tx, .int .i64 r.mi, .int .i64 r.sq]) rfl (by kernel_rfl) (by kernel_rfl) (by kernel_rfl) (fun _ _ _ h => h) (Or.inl ⟨by rfl, ?_⟩) (by assumption) ?_
        · (intro W hSw; (try dsimp only at hSw); go_simp; try with_reducible rfl)
        try simp only [Act.put, List.setIfInBounds_toArray, List.set_cons_zero, List.set_cons_succ]
        refine wpAnyH_ready (rs := [7]) (by kernel_rfl) (by simp) ?_
        refine AllReadyH.cons (o := { dst := some 8, op := Go.Op.alloc 67, type := 0, pos := "law.go:40", after := #[], guard := none }) rfl (fun K hK => ?_) ?_
        · go_simp
          refine hK.out _ _ ?_ (fun hHeld2 => ?_)
          · try dsimp only
            first | (refine hKK.out _ ?_; (focus (repeat' first | (with_reducible refine bel_refl ?_) | with_reducible assumption | with_reducible refine bel_drew ?_ | with_reducible refine bel_drewN _ ?_ | with_reducible refine bel_alloc _ ?_ | with_reducible refine bel_set ?_ _ ?_ | (with_reducible apply bel_call; with_reducible assumption) | (with_reducible apply bel_owg; with_reducible assumption; (focus omega)) | with_reducible exact Nat.le_refl _ | omega | (simp; done) | (simp; omega))); done) | go_keep
          clear hK K hHeld1
          try simp only [Act.put, List.setIfInBounds_toArray, List.set_cons_zero, List.set_cons_succ]
          refine wpAnyH_ready (rs := [8]) (by kernel_rfl) (by simp) ?_
          refine AllReadyH.cons (o := { dst := none, op := Go.Op.store 67 (Go.Operand.tmp 8) (Go.Operand.tmp 26), type := 0, pos := "law.go:40", after := #[{ on := 7, ground := Go.Ground.data }, { on := 6, ground := Go.Ground.data }, { on := 4, ground := Go.Ground.chain }, { on := 0, ground := Go.Ground.phase }, { on := 1, ground := Go.Ground.phase }, { on := 2, ground := Go.Ground.phase }, { on := 3, ground := Go.Ground.phase }, { on := 4, ground := Go.Ground.phase }, { on := 5, ground := Go.Ground.phase }, { on := 6, ground := Go.Ground.phase }, { on := 7, ground := Go.Ground.phase }], guard := none }) rfl (fun K hK => ?_) ?_
          · go_simp
            refine hK.out _ _ ?_ (fun hHeld3 => ?_)
            · try dsimp only
              first | (refine hKK.out _ ?_; (focus (repeat' first | (with_reducible refine bel_refl ?_) | with_reducible assumption | with_reducible refine bel_drew ?_ | with_reducible refine bel_drewN _ ?_ | with_reducible refine bel_alloc _ ?_ | with_reducible refine bel_set ?_ _ ?_ | (with_reducible apply bel_call; with_reducible assumption) | (with_reducible apply bel_owg; with_reducible assumption; (focus omega)) | with_reducible exact Nat.le_refl _ | omega | (simp; done) | (simp; omega))); done) | go_keep
            clear hK K hHeld2
            try simp only [Act.put, List.setIfInBounds_toArray, List.set_cons_zero, List.set_cons_succ]
            refine wpAnyH_done (by kernel_rfl) ?_ _
            have hl5 : Below w2.heap.size w2 (w2.alloc (.cells #[.int .i64 r.num, .string r.us, .string r.nt, .string r.tx, .int .i64 r.mi, .int .i64 r.sq] 67)).drew := below_drw ((Below.refl _ _).alloc (Nat.le_refl _) _)
            have kb5 := heap_call hl5 kb2
            have kr5 := heap_call hl5 kr2
            have hb5 := below_call hb2 hl5
            have ho5 := ho2.call RV.stay hl5
            have kt5 : (w2.alloc (.cells #[.int .i64 r.num, .string r.us, .string r.nt, .string r.tx, .int .i64 r.mi, .int .i64 r.sq] 67)).drew.heap[w2.heap.size]? = some (.cells #[.int .i64 r.num, .string r.us, .string r.nt, .string r.tx, .int .i64 r.mi, .int .i64 r.sq] 67 (0, 0)) := heap_new rfl
            go_upto_region 6 with fail
            clear hl5 kb2 kr2 hb2 ho2 hKK q0 q1 q2 q3 q4 q5
            generalize (w2.alloc (.cells #[.int .i64 r.num, .string r.us, .string r.nt, .string r.tx, .int .i64 r.mi, .int .i64 r.sq] 67)).drew = w5 at *
            generalize w2.heap.size = bt at *
            have hn0 : ((n : Int) == 0) = false := by simp; omega
            have hn1 : ¬ (n : Int) = 0 := by omega
            have hn2 : ¬ n = 0 := by omega
            have kt5c := Blk.cell kt5
            have kt5f := Blk.frozen kt5
            have HRB : Hid (∀ (v m : Int) (W : World), 0 < m → m ≤ 1000 → Calls Tryd.prog 17 #[.int .i64 v, .int .i64 m] W fun e w2 => ∃ j : Nat, e = .returned (.int .i64 (j : Int)) ∧ (j : Int) < m ∧ w2 = W ∧ Hid ((j : Int) = v % m)) := Lib.hid fun v m W h1 h2 => (round_any v m W h1 (by omega)).mono fun e w2 ⟨a1, a2⟩ => ⟨(v % m).toNat, by rw [a1, Int.toNat_of_nonneg (Int.emod_nonneg _ (by omega))], by rw [Int.toNat_of_nonneg (Int.emod_nonneg _ (by omega))]; exact Int.emod_lt_of_pos _ h1, a2, Lib.hid (Int.toNat_of_nonneg (Int.emod_nonneg _ (by omega)))⟩
            refine wp_region_held_drew (S := fun _ => True) (by kernel_rfl) ?_ (fun hHeld0 => ?_)
            · try dsimp only
              try exact trivial
            refine wpAnyH_take (i := 0) (oi := { dst := some 27, op := Go.Op.build 64 #[(0, Go.Operand.const (Go.Value.string { data := #[120, 32, 121] })), (1, Go.Operand.const (Go.Value.string { data := #[98, 111, 98] }))], type := 64, pos := "law.go:41", after := #[], guard := none }) (v := .agg #[.string ⟨#[120, 32, 121]⟩, .string ⟨#[98, 111, 98]⟩]) rfl (by kernel_rfl) (by kernel_rfl) (by kernel_rfl) (fun _ _ _ h => h) (Or.inl ⟨by rfl, ?_⟩) (by assumption) ?_
            · (intro W hSw; (try dsimp only at hSw); go_simp; try with_reducible rfl)
            try simp only [Act.put, List.setIfInBounds_toArray, List.set_cons_zero, List.set_cons_succ]
            refine wpAnyH_take (i := 1) (oi := { dst := some 28, op := Go.Op.move (Go.Operand.tmp 2), type := 3, pos := "law.go:41", after := #[], guard := none }) (v := .int .i64 x) rfl (by kernel_rfl) (by kernel_rfl) (by kernel_rfl) (fun _ _ _ h => h) (Or.inl ⟨by rfl, ?_⟩) (by assumption) ?_
            · (intro W hSw; (try dsimp only at hSw); go_simp; try with_reducible rfl)
            try simp only [Act.put, List.setIfInBounds_toArray, List.set_cons_zero, List.set_cons_succ]
            refine wpAnyH_take (i := 2) (oi := { dst := some 29, op := Go.Op.move (Go.Operand.tmp 7), type := 3, pos := "law.go:41", after := #[], guard := none }) (v := .int .i64 (n : Int)) rfl (by kernel_rfl) (by kernel_rfl) (by kernel_rfl) (fun _ _ _ h => h) (Or.inl ⟨by rfl, ?_⟩) (by assumption) ?_
            · (intro W hSw; (try dsimp only at hSw); go_simp; try with_reducible rfl)
            try simp only [Act.put, List.setIfInBounds_toArray, List.set_cons_zero, List.set_cons_succ]
            refine wpAnyH_take (i := 3) (oi := { dst := some 30, op := Go.Op.binOp Go.BinOp.quo 3 (Go.Operand.tmp 28) (Go.Operand.tmp 29) 3, type := 3, pos := "law.go:41", after := #[{ on := 1, ground := Go.Ground.data }, { on := 2, ground := Go.Ground.data }], guard := none }) (v := ?_) rfl (by kernel_rfl) (by kernel_rfl) (by kernel_rfl) (fun _ _ _ h => h) (Or.inl ⟨by rfl, ?_⟩) (by assumption) ?_
            rotate_left
            · (intro W hSw; (try dsimp only at hSw); go_simp; try with_reducible rfl)
            try simp only [Act.put, List.setIfInBounds_toArray, List.set_cons_zero, List.set_cons_succ]
            refine wpAnyH_take (i := 6) (oi := { dst := some 33, op := Go.Op.move (Go.Operand.tmp 2), type := 3, pos := "law.go:41", after := #[], guard := none }) (v := .int .i64 x) rfl (by kernel_rfl) (by kernel_rfl) (by kernel_rfl) (fun _ _ _ h => h) (Or.inl ⟨by rfl, ?_⟩) (by assumption) ?_
            · (intro W hSw; (try dsimp only at hSw); go_simp; try with_reducible rfl)
            try simp only [Act.put, List.setIfInBounds_toArray, List.set_cons_zero, List.set_cons_succ]
            refine wpAnyH_take (i := 7) (oi := { dst := some 34, op := Go.Op.move (Go.Operand.tmp 7), type := 3, pos := "law.go:41", after := #[], guard := none }) (v := .int .i64 (n : Int)) rfl (by kernel_rfl) (by kernel_rfl) (by kernel_rfl) (fun _ _ _ h => h) (Or.inl ⟨by rfl, ?_⟩) (by assumption) ?_
            · (intro W hSw; (try dsimp only at hSw); go_simp; try with_reducible rfl)
            try simp only [Act.put, List.setIfInBounds_toArray, List.set_cons_zero, List.set_cons_succ]
            refine wpAnyH_take (i := 8) (oi := { dst := some 35, op := Go.Op.binOp Go.BinOp.quo 3 (Go.Operand.tmp 33) (Go.Operand.tmp 34) 3, type := 3, pos := "law.go:41", after := #[{ on := 6, ground := Go.Ground.data }, { on := 7, ground := Go.Ground.data }], guard := none }) (v := ?_) rfl (by kernel_rfl) (by kernel_rfl) (by kernel_rfl) (fun _ _ _ h => h) (Or.inl ⟨by rfl, ?_⟩) (by assumption) ?_
            rotate_left
            · (intro W hSw; (try dsimp only at hSw); go_simp; try with_reducible rfl)
            try simp only [Act.put, List.setIfInBounds_toArray, List.set_cons_zero, List.set_cons_succ]
            refine wpAnyH_take (i := 9) (oi := { dst := some 36, op := Go.Op.binOp Go.BinOp.quo 3 (Go.Operand.tmp 35) (Go.Operand.const (Go.Value.int Go.IntKind.i64 2)) 3, type := 3, pos := "law.go:41", after := #[{ on := 8, ground := Go.Ground.data }], guard := none }) (v := ?_) rfl (by kernel_rfl) (by kernel_rfl) (by kernel_rfl) (fun _ _ _ h => h) (Or.inl ⟨by rfl, ?_⟩) (by assumption) ?_
            rotate_left
            · (intro W hSw; (try dsimp only at hSw); go_simp; try with_reducible rfl)
            try simp only [Act.put, List.setIfInBounds_toArray, List.set_cons_zero, List.set_cons_succ]
            refine wpAnyH_ready (rs := [4]) (by kernel_rfl) (by simp) ?_
            refine AllReadyH.cons (o := { dst := some 31, op := Go.Op.call { callee := Go.Callee.value (Go.Operand.func 17), args := #[Go.Operand.tmp 30, Go.Operand.const (Go.Value.int Go.IntKind.i64 2)], argTypes := #[3, 3] }, type := 3, pos := "law.go:41", after := #[{ on := 3, ground := Go.Ground.data }], guard := none }) rfl (fun K hK => ?_) ?_
            · go_simp
              (go_at_call 17; refine (HRB.out _ 2 _ (by omega) (by omega)).mono ?_; rintro e wn ⟨j1, rfl, j1b, hwn, j1e⟩; obtain rfl := hwn.symm; clear hwn; have hix := alO_idx (k := j1) (by omega))
              try go_wp2_with fail
              refine hK.out _ _ ?_ (fun hHeld1 => ?_)
              · try dsimp only
                try exact trivial
              clear hK K hHeld0
              try simp only [Act.put, List.setIfInBounds_toArray, List.set_cons_zero, List.set_cons_succ]
              refine wpAnyH_take (i := 5) (oi := { dst := some 32, op := Go.Op.index 64 (Go.Operand.tmp 27) (Go.Operand.tmp 31), type := 9, pos := "law.go:41", after := #[{ on := 0, ground := Go.Ground.data }, { on := 4, ground := Go.Ground.data }], guard := none }) (v := .string (alO j1)) rfl (by kernel_rfl) (by kernel_rfl) (by kernel_rfl) (fun _ _ _ h => h) (Or.inl ⟨by rfl, ?_⟩) (by assumption) ?_
              · (intro W hSw; (try dsimp only at hSw); go_simp; try with_reducible rfl)
              try simp only [Act.put, List.setIfInBounds_toArray, List.set_cons_zero, List.set_cons_succ]
              refine wpAnyH_take (i := 12) (oi := { dst := some 39, op := Go.Op.fieldAddr 67 (Go.Operand.tmp 8) 1, type := 0, pos := "law.go:41", after := #[{ on := 0, ground := Go.Ground.phase }, { on := 1, ground := Go.Ground.phase }, { on := 2, ground := Go.Ground.phase }, { on := 3, ground := Go.Ground.phase }, { on := 4, ground := Go.Ground.phase }, { on := 5, ground := Go.Ground.phase }, { on := 6, ground := Go.Ground.textOnly Go.Departure.lateStores }, { on := 7, ground := Go.Ground.textOnly Go.Departure.lateStores }, { on := 8, ground := Go.Ground.textOnly Go.Departure.lateStores }, { on := 9, ground := Go.Ground.textOnly Go.Departure.lateStores }, { on := 10, ground := Go.Ground.textOnly Go.Departure.lateStoresUnsure }, { on := 11, ground := Go.Ground.textOnly Go.Departure.lateStores }], guard := none }) (v := .pointer (some ⟨bt, 1, none⟩)) rfl (by kernel_rfl) (by kernel_rfl) (by kernel_rfl) (fun _ _ _ h => h) (Or.inl ⟨by rfl, ?_⟩) (by assumption) ?_
              · (intro W hSw; (try dsimp only at hSw); go_simp; try with_reducible rfl)
              try simp only [Act.put, List.setIfInBounds_toArray, List.set_cons_zero, List.set_cons_succ]
              refine wpAnyH_ready (rs := [10]) (by kernel_rfl) (by simp) ?_
              refine AllReadyH.cons (o := { dst := some 37, op := Go.Op.call { callee := Go.Callee.value (Go.Operand.func 17), args := #[Go.Operand.tmp 36, Go.Operand.const (Go.Value.int Go.IntKind.i64 5)], argTypes := #[3, 3] }, type := 3, pos := "law.go:41", after := #[{ on := 9, ground := Go.Ground.data }, { on := 4, ground := Go.Ground.chain }], guard := none }) rfl (fun K hK => ?_) ?_
              · go_simp
                (go_at_call 17; refine (HRB.out _ 5 _ (by omega) (by omega)).mono ?_; rintro e wn ⟨j2, rfl, j2b, hwn, j2e⟩; obtain rfl := hwn.symm; clear hwn; have hy2 : IntKind.i64.wrap ((j2 : Int) - 1) = (j2 : Int) - 1 := by rw [IntKind.wrap_i64]; omega)
                try go_wp2_with fail
                refine hK.out _ _ ?_ (fun hHeld2 => ?_)
                · try dsimp only
                  try exact trivial
                clear hK K hHeld1
                try simp only [Act.put, List.setIfInBounds_toArray, List.set_cons_zero, List.set_cons_succ]
                refine wpAnyH_take (i := 11) (oi := { dst := some 38, op := Go.Op.binOp Go.BinOp.sub 3 (Go.Operand.tmp 37) (Go.Operand.const (Go.Value.int Go.IntKind.i64 1)) 3, type := 3, pos := "law.go:41", after := #[{ on := 10, ground := Go.Ground.data }, { on := 13, ground := Go.Ground.gcOnly Go.Departure.lateStores }], guard := none }) (v := .int .i64 ((j2 : Int) - 1)) rfl (by kernel_rfl) (by kernel_rfl) (by kernel_rfl) (fun _ _ _ h => h) (Or.inl ⟨by rfl, ?_⟩) (by assumption) ?_
                · (intro W hSw; (try dsimp only at hSw); go_simp; try with_reducible rfl)
                try simp only [Act.put, List.setIfInBounds_toArray, List.set_cons_zero, List.set_cons_succ]
                refine wpAnyH_ready (rs := [13]) (by kernel_rfl) (by simp) ?_
                refine AllReadyH.cons (o := { dst := none, op := Go.Op.store 9 (Go.Operand.tmp 39) (Go.Operand.tmp 32), type := 0, pos := "law.go:41", after := #[{ on := 12, ground := Go.Ground.data }, { on := 5, ground := Go.Ground.data }, { on := 10, ground := Go.Ground.chain }, { on := 0, ground := Go.Ground.phase }, { on := 1, ground := Go.Ground.phase }, { on := 2, ground := Go.Ground.phase }, { on := 3, ground := Go.Ground.phase }, { on := 4, ground := Go.Ground.phase }, { on := 5, ground := Go.Ground.phase }, { on := 6, ground := Go.Ground.textOnly Go.Departure.lateStores }, { on := 7, ground := Go.Ground.textOnly Go.Departure.lateStores }, { on := 8, ground := Go.Ground.textOnly Go.Departure.lateStores }, { on := 9, ground := Go.Ground.textOnly Go.Departure.lateStores }, { on := 10, ground := Go.Ground.textOnly Go.Departure.lateStoresUnsure }, { on := 11, ground := Go.Ground.textOnly Go.Departure.lateStores }], guard := none }) rfl (fun K hK => ?_) ?_
                · go_simp
                  refine hK.out _ _ ?_ (fun hHeld3 => ?_)
                  · try dsimp only
                    try exact trivial
                  clear hK K hHeld2
                  try simp only [Act.put, List.setIfInBounds_toArray, List.set_cons_zero, List.set_cons_succ]
                  refine wpAnyH_take (i := 14) (oi := { dst := some 40, op := Go.Op.fieldAddr 67 (Go.Operand.tmp 8) 4, type := 0, pos := "law.go:41", after := #[{ on := 0, ground := Go.Ground.phase }, { on := 1, ground := Go.Ground.phase }, { on := 2, ground := Go.Ground.phase }, { on := 3, ground := Go.Ground.phase }, { on := 4, ground := Go.Ground.phase }, { on := 5, ground := Go.Ground.phase }, { on := 6, ground := Go.Ground.phase }, { on := 7, ground := Go.Ground.phase }, { on := 8, ground := Go.Ground.phase }, { on := 9, ground := Go.Ground.phase }, { on := 10, ground := Go.Ground.phase }, { on := 11, ground := Go.Ground.phase }, { on := 12, ground := Go.Ground.phase }, { on := 13, ground := Go.Ground.phase }], guard := none }) (v := .pointer (some ⟨bt, 4, none⟩)) rfl (by kernel_rfl) (by kernel_rfl) (by kernel_rfl) (fun _ _ _ h => h) (Or.inl ⟨by rfl, ?_⟩) (by assumption) ?_
                  · (intro W hSw; (try dsimp only at hSw); go_simp; try with_reducible rfl)
                  try simp only [Act.put, List.setIfInBounds_toArray, List.set_cons_zero, List.set_cons_succ]
                  refine wpAnyH_ready (rs := [15]) (by kernel_rfl) (by simp) ?_
                  refine AllReadyH.cons (o := { dst := none, op := Go.Op.store 3 (Go.Operand.tmp 40) (Go.Operand.tmp 38), type := 0, pos := "law.go:41", after := #[{ on := 14, ground := Go.Ground.data }, { on := 11, ground := Go.Ground.data }, { on := 13, ground := Go.Ground.chain }, { on := 0, ground := Go.Ground.phase }, { on := 1, ground := Go.Ground.phase }, { on := 2, ground := Go.Ground.phase }, { on := 3, ground := Go.Ground.phase }, { on := 4, ground := Go.Ground.phase }, { on := 5, ground := Go.Ground.phase }, { on := 6, ground := Go.Ground.phase }, { on := 7, ground := Go.Ground.phase }, { on := 8, ground := Go.Ground.phase }, { on := 9, ground := Go.Ground.phase }, { on := 10, ground := Go.Ground.phase }, { on := 11, ground := Go.Ground.phase }, { on := 12, ground := Go.Ground.phase }, { on := 13, ground := Go.Ground.phase }], guard := none }) rfl (fun K hK => ?_) ?_
                  · go_simp
                    refine hK.out _ _ ?_ (fun hHeld4 => ?_)
                    · try dsimp only
                      try exact trivial
                    clear hK K hHeld3
                    try simp only [Act.put, List.setIfInBounds_toArray, List.set_cons_zero, List.set_cons_succ]
                    refine wpAnyH_done (by kernel_rfl) ?_ _
                    rw [← j1e.out, ← j2e.out, Int.toNat_natCast] at HC
                    have hnb : bt ≠ w.heap.size ∧ bt ≠ w.heap.size + 1 ∧ gr ≠ bt ∧ w.heap.size ≤ bt := by omega
                    have kt6a : (w5.setCell ⟨bt, 1, none⟩ (.string (alO j1))).heap[bt]? = some (.cells #[.int .i64 r.num, .string (alO j1), .string r.nt, .string r.tx, .int .i64 r.mi, .int .i64 r.sq] 67 (0, 0)) := heap_set_near _ _ _ _ _ _ kt5
                    have kt6 : ((w5.setCell ⟨bt, 1, none⟩ (.string (alO j1))).setCell ⟨bt, 4, none⟩ (.int .i64 ((j2 : Int) - 1))).drew.heap[bt]? = some (.cells #[.int .i64 r.num, .string (alO j1), .string r.nt, .string r.tx, .int .i64 ((j2 : Int) - 1), .int .i64 r.sq] 67 (0, 0)) := heap_set_near _ _ _ _ _ _ kt6a
                    have kb6 : ((w5.setCell ⟨bt, 1, none⟩ (.string (alO j1))).setCell ⟨bt, 4, none⟩ (.int .i64 ((j2 : Int) - 1))).drew.heap[w.heap.size]? = _ := (heap_set_far _ _ _ _ _ hnb.1.symm).trans ((heap_set_far _ _ _ _ _ hnb.1.symm).trans kb5)
                    have kr6 : ((w5.setCell ⟨bt, 1, none⟩ (.string (alO j1))).setCell ⟨bt, 4, none⟩ (.int .i64 ((j2 : Int) - 1))).drew.heap[w.heap.size + 1]? = _ := (heap_set_far _ _ _ _ _ hnb.2.1.symm).trans ((heap_set_far _ _ _ _ _ hnb.2.1.symm).trans kr5)
                    have hb6 : Below w.heap.size w ((w5.setCell ⟨bt, 1, none⟩ (.string (alO j1))).setCell ⟨bt, 4, none⟩ (.int .i64 ((j2 : Int) - 1))).drew := below_drw ((hb5.setCell hnb.2.2.2 _).setCell hnb.2.2.2 _)
                    have hnn : (some (⟨gr, 0, none⟩ : Addr)).map (·.block) ≠ some bt := fun e => hnb.2.2.1 (by injection e)
                    have ho6 : OwR RV 6 ((w5.setCell ⟨bt, 1, none⟩ (.string (alO j1))).setCell ⟨bt, 4, none⟩ (.int .i64 ((j2 : Int) - 1))).drew (w.heap.size + 2) 67 (some ⟨gr, 0, none⟩) n c1 hs := (OwV.st (OwV.st ho5 hnn) hnn).call RV.stay (below_drw (Below.refl _ _))
                    go_upto_region 7 with fail
                    clear kt5 kt5c kt5f kt6a kb5 kr5 hb5 ho5 hnn hn0 hn1
                    have hal := alO_ok j1
                    generalize ((w5.setCell ⟨bt, 1, none⟩ (.string (alO j1))).setCell ⟨bt, 4, none⟩ (.int .i64 ((j2 : Int) - 1))).drew = w6 at *
                    generalize alO j1 = v at *
                    have kt6c := Blk.cell kt6
                    have kb6c := Blk.cell kb6
                    have hgr6 := ho6.rd
                    obtain ⟨g7, o7, e7, hg7, hc7⟩ := RdV.opened hgr6 (by omega)
                    injection e7 with e7
                    injection e7 with e7 e8
                    subst e7 e8
                    obtain ⟨s0, s1, s2, s3, s4, s5⟩ := hc7 j hjn
                    rw [Nat.zero_add] at s0 s1 s2 s3 s4 s5
                    have kgf : ∀ i, w6.frozen? ⟨gr, i, none⟩ = false := by
                      rcases (OwW.vals ho6).2 with ⟨e1, e2⟩ | ⟨g5, cap, cur, hv, hbb, hh, _⟩
                      · injection e1 with e1; cases e1
                      · injection hv with e1; injection e1 with e1; injection e1 with e1 e2; subst e1; exact Blk.frozen hh
                    have hx1 : gr ≠ bt := hnb.2.2.1
                    have hx2 : bt ≠ gr := hx1.symm
                    have hx3 : gr ≠ w.heap.size := by omega
                    have hx4 : w.heap.size ≠ gr := hx3.symm
                    have hx5 : gr ≠ w.heap.size + 1 := by omega
                    refine wp_region_held_drew (S := fun W => W.cell? ⟨w.heap.size, 9, none⟩ = some (.slice (some ⟨gr, 0, none⟩) n c1) ∧ W.cell? ⟨bt, 0, none⟩ = some (.int .i64 r.num) ∧ W.cell? ⟨bt, 1, none⟩ = some (.string v) ∧ W.cell? ⟨bt, 2, none⟩ = some (.string r.nt) ∧ W.cell? ⟨bt, 3, none⟩ = some (.string r.tx) ∧ W.cell? ⟨bt, 4, none⟩ = some (.int .i64 ((j2 : Int) - 1)) ∧ W.cell? ⟨bt, 5, none⟩ = some (.int .i64 r.sq)) (by kernel_rfl) ?_ (fun hHeld0 => ?_)
                    · try dsimp only
                      first | go_keep | (simp [kt6c, kb6c]; done)
                    refine wpAnyH_take (i := 0) (oi := { dst := some 41, op := Go.Op.fieldAddr 31 (Go.Operand.tmp 3) 7, type := 0, pos := "law.go:42", after := #[], guard := none }) (v := .pointer (some ⟨w.heap.size, 9, none⟩)) rfl (by kernel_rfl) (by kernel_rfl) (by kernel_rfl) (fun _ _ _ h => h) (Or.inl ⟨by rfl, ?_⟩) (by assumption) ?_
                    · (intro W hSw; (try dsimp only at hSw); go_simp; try with_reducible rfl)
                    try simp only [Act.put, List.setIfInBounds_toArray, List.set_cons_zero, List.set_cons_succ]
                    refine wpAnyH_take (i := 1) (oi := { dst := some 42, op := Go.Op.load 29 (Go.Operand.tmp 41), type := 29, pos := "law.go:42", after := #[{ on := 0, ground := Go.Ground.data }], guard := none }) (v := .slice (some ⟨gr, 0, none⟩) n c1) rfl (by kernel_rfl) (by kernel_rfl) (by kernel_rfl) (fun _ _ _ h => h) (Or.inl ⟨by rfl, ?_⟩) (by assumption) ?_
                    · (intro W hSw; (try dsimp only at hSw); go_simp; try with_reducible rfl)
                    try simp only [Act.put, List.setIfInBounds_toArray, List.set_cons_zero, List.set_cons_succ]
                    refine wpAnyH_take (i := 2) (oi := { dst := some 43, op := Go.Op.move (Go.Operand.tmp 2), type := 3, pos := "law.go:42", after := #[], guard := none }) (v := .int .i64 x) rfl (by kernel_rfl) (by kernel_rfl) (by kernel_rfl) (fun _ _ _ h => h) (Or.inl ⟨by rfl, ?_⟩) (by assumption) ?_
                    · (intro W hSw; (try dsimp only at hSw); go_simp; try with_reducible rfl)
                    try simp only [Act.put, List.setIfInBounds_toArray, List.set_cons_zero, List.set_cons_succ]
                    refine wpAnyH_take (i := 3) (oi := { dst := some 44, op := Go.Op.move (Go.Operand.tmp 7), type := 3, pos := "law.go:42", after := #[], guard := none }) (v := .int .i64 (n : Int)) rfl (by kernel_rfl) (by kernel_rfl) (by kernel_rfl) (fun _ _ _ h => h) (Or.inl ⟨by rfl, ?_⟩) (by assumption) ?_
                    · (intro W hSw; (try dsimp only at hSw); go_simp; try with_reducible rfl)
                    try simp only [Act.put, List.setIfInBounds_toArray, List.set_cons_zero, List.set_cons_succ]
                    refine wpAnyH_take (i := 5) (oi := { dst := some 46, op := Go.Op.load 67 (Go.Operand.tmp 8), type := 67, pos := "law.go:42", after := #[], guard := none }) (v := .agg #[.int .i64 r.num, .string v, .string r.nt, .string r.tx, .int .i64 ((j2 : Int) - 1), .int .i64 r.sq]) rfl (by kernel_rfl) (by kernel_rfl) (by kernel_rfl) (fun _ _ _ h => h) (Or.inl ⟨by rfl, ?_⟩) (by assumption) ?_
                    · (intro W hSw; (try dsimp only at hSw); go_simp; try with_reducible rfl)
                    try simp only [Act.put, List.setIfInBounds_toArray, List.set_cons_zero, List.set_cons_succ]
                    refine wpAnyH_ready (rs := [4]) (by kernel_rfl) (by simp) ?_
                    refine AllReadyH.cons (o := { dst := some 45, op := Go.Op.call { callee := Go.Callee.value (Go.Operand.func 17), args := #[Go.Operand.tmp 43, Go.Operand.tmp 44], argTypes := #[3, 3] }, type := 3, pos := "law.go:42", after := #[{ on := 2, ground := Go.Ground.data }, { on := 3, ground := Go.Ground.data }], guard := none }) rfl (fun K hK => ?_) ?_
                    · go_simp
                      (go_at_call 17; refine (HR.out _).mono ?_; rintro e wn ⟨rfl, hwn⟩; obtain rfl := hwn.symm; clear hwn)
                      try go_wp2_with fail
                      refine hK.out _ _ ?_ (fun hHeld1 => ?_)
                      · try dsimp only
                        first | go_keep | (simp [kt6c, kb6c]; done)
                      clear hK K hHeld0
                      try simp only [Act.put, List.setIfInBounds_toArray, List.set_cons_zero, List.set_cons_succ]
                      refine wpAnyH_take (i := 6) (oi := { dst := some 47, op := Go.Op.indexAddr 29 (Go.Operand.tmp 42) (Go.Operand.tmp 45), type := 0, pos := "law.go:42", after := #[{ on := 1, ground := Go.Ground.data }, { on := 4, ground := Go.Ground.data }, { on := 0, ground := Go.Ground.phase }, { on := 1, ground := Go.Ground.phase }, { on := 2, ground := Go.Ground.phase }, { on := 3, ground := Go.Ground.phase }, { on := 4, ground := Go.Ground.phase }, { on := 5, ground := Go.Ground.phase }], guard := none }) (v := .pointer (some ⟨gr, j * 6, none⟩)) rfl (by kernel_rfl) (by kernel_rfl) (by kernel_rfl) (fun _ _ _ h => h) (Or.inl ⟨by rfl, ?_⟩) (by assumption) ?_
                      · (intro W hSw; (try dsimp only at hSw); go_simp; try with_reducible rfl)
                      try simp only [Act.put, List.setIfInBounds_toArray, List.set_cons_zero, List.set_cons_succ]
                      refine wpAnyH_ready (rs := [7]) (by kernel_rfl) (by simp) ?_
                      refine AllReadyH.cons (o := { dst := none, op := Go.Op.store 67 (Go.Operand.tmp 47) (Go.Operand.tmp 46), type := 0, pos := "law.go:42", after := #[{ on := 6, ground := Go.Ground.data }, { on := 5, ground := Go.Ground.data }, { on := 4, ground := Go.Ground.chain }, { on := 0, ground := Go.Ground.phase }, { on := 1, ground := Go.Ground.phase }, { on := 2, ground := Go.Ground.phase }, { on := 3, ground := Go.Ground.phase }, { on := 4, ground := Go.Ground.phase }, { on := 5, ground := Go.Ground.phase }], guard := none }) rfl (fun K hK => ?_) ?_
                      · go_simp
                        refine hK.out _ _ ?_ (fun hHeld2 => ?_)
                        · try dsimp only
                          first | go_keep | (simp [kt6c, kb6c]; done)
                        clear hK K hHeld1
                        try simp only [Act.put, List.setIfInBounds_toArray, List.set_cons_zero, List.set_cons_succ]
                        refine wpAnyH_done (by kernel_rfl) ?_ _
                        have hx6 : w.heap.size ≤ gr := by omega
                        have hjl : j < hs.length := by rw [← HLN.out]; exact hjn
                        obtain ⟨ho7, kb7, kr7, hb7⟩ := six_all ho6 hjl kb6 kr6 hb6 hx4 hx5.symm hx6 r.num v r.nt r.tx ((j2 : Int) - 1) r.sq
                        clear hjl
                        have hnr : (some (⟨gr, 0, none⟩ : Addr)).map (·.block) ≠ some (w.heap.size + 1) := fun e => hx5 (by injection e)
                        have HWA := Lib.hid (show Lit.wf (.int .i64 ((j2 : Int) - 1)) = true from WalkArith.wf_i64 (by omega))
                        have HWB : Hid (v.size ≤ maxLen) := Lib.hid (Nat.le_trans (by omega) hm16.out)
                        have HWR : Hid (∀ a ∈ hs.set j (⟨r.num, v, r.nt, r.tx, (j2 : Int) - 1, r.sq⟩ : Rv), RvWf a) := Lib.hid (fun a ha => by
                          rcases List.mem_or_eq_of_mem_set ha with h | h
                          · exact HWF.out.hs a h
                          · subst h
                            exact ⟨HRW2.out.num, HWB.out, HRW2.out.nt, HRW2.out.tx, HWA.out, HRW2.out.sq⟩)
                        clear kt6 kt6c kb6 kb6c kr6 hb6 ho6 s0 s1 s2 s3 s4 s5 kgf hgr6 hx1 hx2 hx3 hx4 hx5
                        go_upto_region 24 with fail
                        generalize ((((((w6.setCell ⟨gr, j * 6, none⟩ (.int .i64 r.num)).setCell ⟨gr, j * 6 + 1, none⟩ (.string v)).setCell ⟨gr, j * 6 + 2, none⟩ (.string r.nt)).setCell ⟨gr, j * 6 + 3, none⟩ (.string r.tx)).setCell ⟨gr, j * 6 + 4, none⟩ (.int .i64 ((j2 : Int) - 1))).setCell ⟨gr, j * 6 + 5, none⟩ (.int .i64 r.sq)).drew = y7 at *
                        have kcb := Blk.cell kb7
                        have kfr := Blk.frozen kr7
                        have kcr0 := Blk.cell kr7
                        have kcz := Blk.cell (ten_kz kr7 (.int .i64 kd) (.string us) (.string nt) (.int .i64 ts) (.string tn) (.int .i64 os) (.string on) (.string tx) (.int .i64 z) (.slice (some ⟨gr, 0, none⟩) n c1))
                        have HBF := Lib.hid (below_ten hb7 (Nat.le_succ _) (.int .i64 kd) (.string us) (.string nt) (.int .i64 ts) (.string tn) (.int .i64 os) (.string on) (.string tx) (.int .i64 z) (.slice (some ⟨gr, 0, none⟩) n c1))
                        have HOF := Lib.hid (OwV.ten ho7 hnr (.int .i64 kd) (.string us) (.string nt) (.int .i64 ts) (.string tn) (.int .i64 os) (.string on) (.string tx) (.int .i64 z) (.slice (some ⟨gr, 0, none⟩) n c1))
                        clear kb7 kr7 hb7
                        go_wp2_with fail
                        refine bodyPost_ret (v := .agg #[.int .i64 kd, .string us, .string nt, .int .i64 ts, .string tn, .int .i64 os, .string on, .string tx, .int .i64 z, .slice (some ⟨gr, 0, none⟩) n c1]) ?_ rfl ⟨⟨kd, us, nt, ts, tn, os, on, tx, z, (hs.set j ⟨r.num, v, r.nt, r.tx, (j2 : Int) - 1, r.sq⟩)⟩, (some ⟨gr, 0, none⟩), n, c1, rfl, HOF.out.rd, OwV.ty HOF.out, ⟨HWF.out.kd, HWF.out.us, HWF.out.nt, HWF.out.ts, HWF.out.tn, HWF.out.os, HWF.out.on, HWF.out.tx, HWF.out.n, HWR.out⟩, HBF.out, HC.out⟩
                        simp [results, Tryd.results12, go_sem, kcz]
                      exact AllReadyH.nil
                    exact AllReadyH.nil
                  exact AllReadyH.nil
                exact AllReadyH.nil
              exact AllReadyH.nil
            exact AllReadyH.nil
          exact AllReadyH.nil
        exact AllReadyH.nil
      refine AllReadyH.cons (o := { dst := some 8, op := Go.Op.alloc 67, type := 0, pos := "law.go:40", after := #[], guard := none }) rfl (fun K hK => ?_) ?_
      · go_simp
        refine hK.out _ _ ?_ (fun hHeld1 => ?_)
        · try dsimp only
          first | (refine hKK.out _ ?_; (focus (repeat' first | (with_reducible refine bel_refl ?_) | with_reducible assumption | with_reducible refine bel_drew ?_ | with_reducible refine bel_drewN _ ?_ | with_reducible refine bel_alloc _ ?_ | with_reducible refine bel_set ?_ _ ?_ | (with_reducible apply bel_call; with_reducible assumption) | (with_reducible apply bel_owg; with_reducible assumption; (focus omega)) | with_reducible exact Nat.le_refl _ | omega | (simp; done) | (simp; omega))); done) | go_keep
        clear hK K hHeld0
        try simp only [Act.put, List.setIfInBounds_toArray, List.set_cons_zero, List.set_cons_succ]
        refine wpAnyH_ready (rs := [4]) (by kernel_rfl) (by simp) ?_
        refine AllReadyH.cons (o := { dst := some 24, op := Go.Op.call { callee := Go.Callee.value (Go.Operand.func 17), args := #[Go.Operand.tmp 22, Go.Operand.tmp 23], argTypes := #[3, 3] }, type := 3, pos := "law.go:40", after := #[{ on := 2, ground := Go.Ground.data }, { on := 3, ground := Go.Ground.data }], guard := none }) rfl (fun K hK => ?_) ?_
        · go_simp
          (go_at_call 17; refine (HR.out _).mono ?_; rintro e wn ⟨rfl, hwn⟩; obtain rfl := hwn.symm; clear hwn)
          try go_wp2_with fail
          refine hK.out _ _ ?_ (fun hHeld2 => ?_)
          · try dsimp only
            first | (refine hKK.out _ ?_; (focus (repeat' first | (with_reducible refine bel_refl ?_) | with_reducible assumption | with_reducible refine bel_drew ?_ | with_reducible refine bel_drewN _ ?_ | with_reducible refine bel_alloc _ ?_ | with_reducible refine bel_set ?_ _ ?_ | (with_reducible apply bel_call; with_reducible assumption) | (with_reducible apply bel_owg; with_reducible assumption; (focus omega)) | with_reducible exact Nat.le_refl _ | omega | (simp; done) | (simp; omega))); done) | go_keep
          clear hK K hHeld1
          try simp only [Act.put, List.setIfInBounds_toArray, List.set_cons_zero, List.set_cons_succ]
          refine wpAnyH_take (i := 5) (oi := { dst := some 25, op := Go.Op.indexAddr 29 (Go.Operand.tmp 21) (Go.Operand.tmp 24), type := 0, pos := "law.go:40", after := #[{ on := 1, ground := Go.Ground.data }, { on := 4, ground := Go.Ground.data }], guard := none }) (v := .pointer (some ⟨gr, j * 6, none⟩)) rfl (by kernel_rfl) (by kernel_rfl) (by kernel_rfl) (fun _ _ _ h => h) (Or.inl ⟨by rfl, ?_⟩) (by assumption) ?_
          · (intro W hSw; (try dsimp only at hSw); go_simp; try with_reducible rfl)
          try simp only [Act.put, List.setIfInBounds_toArray, List.set_cons_zero, List.set_cons_succ]
          refine wpAnyH_take (i := 6) (oi := { dst := some 26, op := Go.Op.load 67 (Go.Operand.tmp 25), type := 67, pos := "law.go:40", after := #[{ on := 5, ground := Go.Ground.data }], guard := none }) (v := .agg #[.int .i64 r.num, .string r.us, .string r.nt, .string r.tx, .int .i64 r.mi, .int .i64 r.sq]) rfl (by kernel_rfl) (by kernel_rfl) (by kernel_rfl) (fun _ _ _ h => h) (Or.inl ⟨by rfl, ?_⟩) (by assumption) ?_
          · (intro W hSw; (try dsimp only at hSw); go_simp; try with_reducible rfl)
          try simp only [Act.put, List.setIfInBounds_toArray, List.set_cons_zero, List.set_cons_succ]
          refine wpAnyH_ready (rs := [8]) (by kernel_rfl) (by simp) ?_
          refine AllReadyH.cons (o := { dst := none, op := Go.Op.store 67 (Go.Operand.tmp 8) (Go.Operand.tmp 26), type := 0, pos := "law.go:40", after := #[{ on := 7, ground := Go.Ground.data }, { on := 6, ground := Go.Ground.data }, { on := 4, ground := Go.Ground.chain }, { on := 0, ground := Go.Ground.phase }, { on := 1, ground := Go.Ground.phase }, { on := 2, ground := Go.Ground.phase }, { on := 3, ground := Go.Ground.phase }, { on := 4, ground := Go.Ground.phase }, { on := 5, ground := Go.Ground.phase }, { on := 6, ground := Go.Ground.phase }, { on := 7, ground := Go.Ground.phase }], guard := none }) rfl (fun K hK => ?_) ?_
          · go_simp
            refine hK.out _ _ ?_ (fun hHeld3 => ?_)
            · try dsimp only
              first | (refine hKK.out _ ?_; (focus (repeat' first | (with_reducible refine bel_refl ?_) | with_reducible assumption | with_reducible refine bel_drew ?_ | with_reducible refine bel_drewN _ ?_ | with_reducible refine bel_alloc _ ?_ | with_reducible refine bel_set ?_ _ ?_ | (with_reducible apply bel_call; with_reducible assumption) | (with_reducible apply bel_owg; with_reducible assumption; (focus omega)) | with_reducible exact Nat.le_refl _ | omega | (simp; done) | (simp; omega))); done) | go_keep
            clear hK K hHeld2
            try simp only [Act.put, List.setIfInBounds_toArray, List.set_cons_zero, List.set_cons_succ]
            refine wpAnyH_done (by kernel_rfl) ?_ _
            have hl5 : Below w2.heap.size w2 (w2.alloc (.cells #[.int .i64 r.num, .string r.us, .string r.nt, .string r.tx, .int .i64 r.mi, .int .i64 r.sq] 67)).drew := below_drw ((Below.refl _ _).alloc (Nat.le_refl _) _)
            have kb5 := heap_call hl5 kb2
            have kr5 := heap_call hl5 kr2
            have hb5 := below_call hb2 hl5
            have ho5 := ho2.call RV.stay hl5
            have kt5 : (w2.alloc (.cells #[.int .i64 r.num, .string r.us, .string r.nt, .string r.tx, .int .i64 r.mi, .int .i64 r.sq] 67)).drew.heap[w2.heap.size]? = some (.cells #[.int .i64 r.num, .string r.us, .string r.nt, .string r.tx, .int .i64 r.mi, .int .i64 r.sq] 67 (0, 0)) := heap_new rfl
            go_upto_region 6 with fail
            clear hl5 kb2 kr2 hb2 ho2 hKK q0 q1 q2 q3 q4 q5
            generalize (w2.alloc (.cells #[.int .i64 r.num, .string r.us, .string r.nt, .string r.tx, .int .i64 r.mi, .int .i64 r.sq] 67)).drew = w5 at *
            generalize w2.heap.size = bt at *
            have hn0 : ((n : Int) == 0) = false := by simp; omega
            have hn1 : ¬ (n : Int) = 0 := by omega
            have hn2 : ¬ n = 0 := by omega
            have kt5c := Blk.cell kt5
            have kt5f := Blk.frozen kt5
            have HRB : Hid (∀ (v m : Int) (W : World), 0 < m → m ≤ 1000 → Calls Tryd.prog 17 #[.int .i64 v, .int .i64 m] W fun e w2 => ∃ j : Nat, e = .returned (.int .i64 (j : Int)) ∧ (j : Int) < m ∧ w2 = W ∧ Hid ((j : Int) = v % m)) := Lib.hid fun v m W h1 h2 => (round_any v m W h1 (by omega)).mono fun e w2 ⟨a1, a2⟩ => ⟨(v % m).toNat, by rw [a1, Int.toNat_of_nonneg (Int.emod_nonneg _ (by omega))], by rw [Int.toNat_of_nonneg (Int.emod_nonneg _ (by omega))]; exact Int.emod_lt_of_pos _ h1, a2, Lib.hid (Int.toNat_of_nonneg (Int.emod_nonneg _ (by omega)))⟩
            refine wp_region_held_drew (S := fun _ => True) (by kernel_rfl) ?_ (fun hHeld0 => ?_)
            · try dsimp only
              try exact trivial
            refine wpAnyH_take (i := 0) (oi := { dst := some 27, op := Go.Op.build 64 #[(0, Go.Operand.const (Go.Value.string { data := #[120, 32, 121] })), (1, Go.Operand.const (Go.Value.string { data := #[98, 111, 98] }))], type := 64, pos := "law.go:41", after := #[], guard := none }) (v := .agg #[.string ⟨#[120, 32, 121]⟩, .string ⟨#[98, 111, 98]⟩]) rfl (by kernel_rfl) (by kernel_rfl) (by kernel_rfl) (fun _ _ _ h => h) (Or.inl ⟨by rfl, ?_⟩) (by assumption) ?_
            · (intro W hSw; (try dsimp only at hSw); go_simp; try with_reducible rfl)
            try simp only [Act.put, List.setIfInBounds_toArray, List.set_cons_zero, List.set_cons_succ]
            refine wpAnyH_take (i := 1) (oi := { dst := some 28, op := Go.Op.move (Go.Operand.tmp 2), type := 3, pos := "law.go:41", after := #[], guard := none }) (v := .int .i64 x) rfl (by kernel_rfl) (by kernel_rfl) (by kernel_rfl) (fun _ _ _ h => h) (Or.inl ⟨by rfl, ?_⟩) (by assumption) ?_
            · (intro W hSw; (try dsimp only at hSw); go_simp; try with_reducible rfl)
            try simp only [Act.put, List.setIfInBounds_toArray, List.set_cons_zero, List.set_cons_succ]
            refine wpAnyH_take (i := 2) (oi := { dst := some 29, op := Go.Op.move (Go.Operand.tmp 7), type := 3, pos := "law.go:41", after := #[], guard := none }) (v := .int .i64 (n : Int)) rfl (by kernel_rfl) (by kernel_rfl) (by kernel_rfl) (fun _ _ _ h => h) (Or.inl ⟨by rfl, ?_⟩) (by assumption) ?_
            · (intro W hSw; (try dsimp only at hSw); go_simp; try with_reducible rfl)
            try simp only [Act.put, List.setIfInBounds_toArray, List.set_cons_zero, List.set_cons_succ]
            refine wpAnyH_take (i := 3) (oi := { dst := some 30, op := Go.Op.binOp Go.BinOp.quo 3 (Go.Operand.tmp 28) (Go.Operand.tmp 29) 3, type := 3, pos := "law.go:41", after := #[{ on := 1, ground := Go.Ground.data }, { on := 2, ground := Go.Ground.data }], guard := none }) (v := ?_) rfl (by kernel_rfl) (by kernel_rfl) (by kernel_rfl) (fun _ _ _ h => h) (Or.inl ⟨by rfl, ?_⟩) (by assumption) ?_
            rotate_left
            · (intro W hSw; (try dsimp only at hSw); go_simp; try with_reducible rfl)
            try simp only [Act.put, List.setIfInBounds_toArray, List.set_cons_zero, List.set_cons_succ]
            refine wpAnyH_take (i := 6) (oi := { dst := some 33, op := Go.Op.move (Go.Operand.tmp 2), type := 3, pos := "law.go:41", after := #[], guard := none }) (v := .int .i64 x) rfl (by kernel_rfl) (by kernel_rfl) (by kernel_rfl) (fun _ _ _ h => h) (Or.inl ⟨by rfl, ?_⟩) (by assumption) ?_
            · (intro W hSw; (try dsimp only at hSw); go_simp; try with_reducible rfl)
            try simp only [Act.put, List.setIfInBounds_toArray, List.set_cons_zero, List.set_cons_succ]
            refine wpAnyH_take (i := 7) (oi := { dst := some 34, op := Go.Op.move (Go.Operand.tmp 7), type := 3, pos := "law.go:41", after := #[], guard := none }) (v := .int .i64 (n : Int)) rfl (by kernel_rfl) (by kernel_rfl) (by kernel_rfl) (fun _ _ _ h => h) (Or.inl ⟨by rfl, ?_⟩) (by assumption) ?_
            · (intro W hSw; (try dsimp only at hSw); go_simp; try with_reducible rfl)
            try simp only [Act.put, List.setIfInBounds_toArray, List.set_cons_zero, List.set_cons_succ]
            refine wpAnyH_take (i := 8) (oi := { dst := some 35, op := Go.Op.binOp Go.BinOp.quo 3 (Go.Operand.tmp 33) (Go.Operand.tmp 34) 3, type := 3, pos := "law.go:41", after := #[{ on := 6, ground := Go.Ground.data }, { on := 7, ground := Go.Ground.data }], guard := none }) (v := ?_) rfl (by kernel_rfl) (by kernel_rfl) (by kernel_rfl) (fun _ _ _ h => h) (Or.inl ⟨by rfl, ?_⟩) (by assumption) ?_
            rotate_left
            · (intro W hSw; (try dsimp only at hSw); go_simp; try with_reducible rfl)
            try simp only [Act.put, List.setIfInBounds_toArray, List.set_cons_zero, List.set_cons_succ]
            refine wpAnyH_take (i := 9) (oi := { dst := some 36, op := Go.Op.binOp Go.BinOp.quo 3 (Go.Operand.tmp 35) (Go.Operand.const (Go.Value.int Go.IntKind.i64 2)) 3, type := 3, pos := "law.go:41", after := #[{ on := 8, ground := Go.Ground.data }], guard := none }) (v := ?_) rfl (by kernel_rfl) (by kernel_rfl) (by kernel_rfl) (fun _ _ _ h => h) (Or.inl ⟨by rfl, ?_⟩) (by assumption) ?_
            rotate_left
            · (intro W hSw; (try dsimp only at hSw); go_simp; try with_reducible rfl)
            try simp only [Act.put, List.setIfInBounds_toArray, List.set_cons_zero, List.set_cons_succ]
            refine wpAnyH_ready (rs := [4]) (by kernel_rfl) (by simp) ?_
            refine AllReadyH.cons (o := { dst := some 31, op := Go.Op.call { callee := Go.Callee.value (Go.Operand.func 17), args := #[Go.Operand.tmp 30, Go.Operand.const (Go.Value.int Go.IntKind.i64 2)], argTypes := #[3, 3] }, type := 3, pos := "law.go:41", after := #[{ on := 3, ground := Go.Ground.data }], guard := none }) rfl (fun K hK => ?_) ?_
            · go_simp
              (go_at_call 17; refine (HRB.out _ 2 _ (by omega) (by omega)).mono ?_; rintro e wn ⟨j1, rfl, j1b, hwn, j1e⟩; obtain rfl := hwn.symm; clear hwn; have hix := alO_idx (k := j1) (by omega))
              try go_wp2_with fail
              refine hK.out _ _ ?_ (fun hHeld1 => ?_)
              · try dsimp only
                try exact trivial
              clear hK K hHeld0
              try simp only [Act.put, List.setIfInBounds_toArray, List.set_cons_zero, List.set_cons_succ]
              refine wpAnyH_take (i := 5) (oi := { dst := some 32, op := Go.Op.index 64 (Go.Operand.tmp 27) (Go.Operand.tmp 31), type := 9, pos := "law.go:41", after := #[{ on := 0, ground := Go.Ground.data }, { on := 4, ground := Go.Ground.data }], guard := none }) (v := .string (alO j1)) rfl (by kernel_rfl) (by kernel_rfl) (by kernel_rfl) (fun _ _ _ h => h) (Or.inl ⟨by rfl, ?_⟩) (by assumption) ?_
              · (intro W hSw; (try dsimp only at hSw); go_simp; try with_reducible rfl)
              try simp only [Act.put, List.setIfInBounds_toArray, List.set_cons_zero, List.set_cons_succ]
              refine wpAnyH_take (i := 12) (oi := { dst := some 39, op := Go.Op.fieldAddr 67 (Go.Operand.tmp 8) 1, type := 0, pos := "law.go:41", after := #[{ on := 0, ground := Go.Ground.phase }, { on := 1, ground := Go.Ground.phase }, { on := 2, ground := Go.Ground.phase }, { on := 3, ground := Go.Ground.phase }, { on := 4, ground := Go.Ground.phase }, { on := 5, ground := Go.Ground.phase }, { on := 6, ground := Go.Ground.textOnly Go.Departure.lateStores }, { on := 7, ground := Go.Ground.textOnly Go.Departure.lateStores }, { on := 8, ground := Go.Ground.textOnly Go.Departure.lateStores }, { on := 9, ground := Go.Ground.textOnly Go.Departure.lateStores }, { on := 10, ground := Go.Ground.textOnly Go.Departure.lateStoresUnsure }, { on := 11, ground := Go.Ground.textOnly Go.Departure.lateStores }], guard := none }) (v := .pointer (some ⟨bt, 1, none⟩)) rfl (by kernel_rfl) (by kernel_rfl) (by kernel_rfl) (fun _ _ _ h => h) (Or.inl ⟨by rfl, ?_⟩) (by assumption) ?_
              · (intro W hSw; (try dsimp only at hSw); go_simp; try with_reducible rfl)
              try simp only [Act.put, List.setIfInBounds_toArray, List.set_cons_zero, List.set_cons_succ]
              refine wpAnyH_ready (rs := [10]) (by kernel_rfl) (by simp) ?_
              refine AllReadyH.cons (o := { dst := some 37, op := Go.Op.call { callee := Go.Callee.value (Go.Operand.func 17), args := #[Go.Operand.tmp 36, Go.Operand.const (Go.Value.int Go.IntKind.i64 5)], argTypes := #[3, 3] }, type := 3, pos := "law.go:41", after := #[{ on := 9, ground := Go.Ground.data }, { on := 4, ground := Go.Ground.chain }], guard := none }) rfl (fun K hK => ?_) ?_
              · go_simp
                (go_at_call 17; refine (HRB.out _ 5 _ (by omega) (by omega)).mono ?_; rintro e wn ⟨j2, rfl, j2b, hwn, j2e⟩; obtain rfl := hwn.symm; clear hwn; have hy2 : IntKind.i64.wrap ((j2 : Int) - 1) = (j2 : Int) - 1 := by rw [IntKind.wrap_i64]; omega)
                try go_wp2_with fail
                refine hK.out _ _ ?_ (fun hHeld2 => ?_)
                · try dsimp only
                  try exact trivial
                clear hK K hHeld1
                try simp only [Act.put, List.setIfInBounds_toArray, List.set_cons_zero, List.set_cons_succ]
                refine wpAnyH_take (i := 11) (oi := { dst := some 38, op := Go.Op.binOp Go.BinOp.sub 3 (Go.Operand.tmp 37) (Go.Operand.const (Go.Value.int Go.IntKind.i64 1)) 3, type := 3, pos := "law.go:41", after := #[{ on := 10, ground := Go.Ground.data }, { on := 13, ground := Go.Ground.gcOnly Go.Departure.lateStores }], guard := none }) (v := .int .i64 ((j2 : Int) - 1)) rfl (by kernel_rfl) (by kernel_rfl) (by kernel_rfl) (fun _ _ _ h => h) (Or.inl ⟨by rfl, ?_⟩) (by assumption) ?_
                · (intro W hSw; (try dsimp only at hSw); go_simp; try with_reducible rfl)
                try simp only [Act.put, List.setIfInBounds_toArray, List.set_cons_zero, List.set_cons_succ]
                refine wpAnyH_ready (rs := [13]) (by kernel_rfl) (by simp) ?_
                refine AllReadyH.cons (o := { dst := none, op := Go.Op.store 9 (Go.Operand.tmp 39) (Go.Operand.tmp 32), type := 0, pos := "law.go:41", after := #[{ on := 12, ground := Go.Ground.data }, { on := 5, ground := Go.Ground.data }, { on := 10, ground := Go.Ground.chain }, { on := 0, ground := Go.Ground.phase }, { on := 1, ground := Go.Ground.phase }, { on := 2, ground := Go.Ground.phase }, { on := 3, ground := Go.Ground.phase }, { on := 4, ground := Go.Ground.phase }, { on := 5, ground := Go.Ground.phase }, { on := 6, ground := Go.Ground.textOnly Go.Departure.lateStores }, { on := 7, ground := Go.Ground.textOnly Go.Departure.lateStores }, { on := 8, ground := Go.Ground.textOnly Go.Departure.lateStores }, { on := 9, ground := Go.Ground.textOnly Go.Departure.lateStores }, { on := 10, ground := Go.Ground.textOnly Go.Departure.lateStoresUnsure }, { on := 11, ground := Go.Ground.textOnly Go.Departure.lateStores }], guard := none }) rfl (fun K hK => ?_) ?_
                · go_simp
                  refine hK.out _ _ ?_ (fun hHeld3 => ?_)
                  · try dsimp only
                    try exact trivial
                  clear hK K hHeld2
                  try simp only [Act.put, List.setIfInBounds_toArray, List.set_cons_zero, List.set_cons_succ]
                  refine wpAnyH_take (i := 14) (oi := { dst := some 40, op := Go.Op.fieldAddr 67 (Go.Operand.tmp 8) 4, type := 0, pos := "law.go:41", after := #[{ on := 0, ground := Go.Ground.phase }, { on := 1, ground := Go.Ground.phase }, { on := 2, ground := Go.Ground.phase }, { on := 3, ground := Go.Ground.phase }, { on := 4, ground := Go.Ground.phase }, { on := 5, ground := Go.Ground.phase }, { on := 6, ground := Go.Ground.phase }, { on := 7, ground := Go.Ground.phase }, { on := 8, ground := Go.Ground.phase }, { on := 9, ground := Go.Ground.phase }, { on := 10, ground := Go.Ground.phase }, { on := 11, ground := Go.Ground.phase }, { on := 12, ground := Go.Ground.phase }, { on := 13, ground := Go.Ground.phase }], guard := none }) (v := .pointer (some ⟨bt, 4, none⟩)) rfl (by kernel_rfl) (by kernel_rfl) (by kernel_rfl) (fun _ _ _ h => h) (Or.inl ⟨by rfl, ?_⟩) (by assumption) ?_
                  · (intro W hSw; (try dsimp only at hSw); go_simp; try with_reducible rfl)
                  try simp only [Act.put, List.setIfInBounds_toArray, List.set_cons_zero, List.set_cons_succ]
                  refine wpAnyH_ready (rs := [15]) (by kernel_rfl) (by simp) ?_
                  refine AllReadyH.cons (o := { dst := none, op := Go.Op.store 3 (Go.Operand.tmp 40) (Go.Operand.tmp 38), type := 0, pos := "law.go:41", after := #[{ on := 14, ground := Go.Ground.data }, { on := 11, ground := Go.Ground.data }, { on := 13, ground := Go.Ground.chain }, { on := 0, ground := Go.Ground.phase }, { on := 1, ground := Go.Ground.phase }, { on := 2, ground := Go.Ground.phase }, { on := 3, ground := Go.Ground.phase }, { on := 4, ground := Go.Ground.phase }, { on := 5, ground := Go.Ground.phase }, { on := 6, ground := Go.Ground.phase }, { on := 7, ground := Go.Ground.phase }, { on := 8, ground := Go.Ground.phase }, { on := 9, ground := Go.Ground.phase }, { on := 10, ground := Go.Ground.phase }, { on := 11, ground := Go.Ground.phase }, { on := 12, ground := Go.Ground.phase }, { on := 13, ground := Go.Ground.phase }], guard := none }) rfl (fun K hK => ?_) ?_
                  · go_simp
                    refine hK.out _ _ ?_ (fun hHeld4 => ?_)
                    · try dsimp only
                      try exact trivial
                    clear hK K hHeld3
                    try simp only [Act.put, List.setIfInBounds_toArray, List.set_cons_zero, List.set_cons_succ]
                    refine wpAnyH_done (by kernel_rfl) ?_ _
                    rw [← j1e.out, ← j2e.out, Int.toNat_natCast] at HC
                    have hnb : bt ≠ w.heap.size ∧ bt ≠ w.heap.size + 1 ∧ gr ≠ bt ∧ w.heap.size ≤ bt := by omega
                    have kt6a : (w5.setCell ⟨bt, 1, none⟩ (.string (alO j1))).heap[bt]? = some (.cells #[.int .i64 r.num, .string (alO j1), .string r.nt, .string r.tx, .int .i64 r.mi, .int .i64 r.sq] 67 (0, 0)) := heap_set_near _ _ _ _ _ _ kt5
                    have kt6 : ((w5.setCell ⟨bt, 1, none⟩ (.string (alO j1))).setCell ⟨bt, 4, none⟩ (.int .i64 ((j2 : Int) - 1))).drew.heap[bt]? = some (.cells #[.int .i64 r.num, .string (alO j1), .string r.nt, .string r.tx, .int .i64 ((j2 : Int) - 1), .int .i64 r.sq] 67 (0, 0)) := heap_set_near _ _ _ _ _ _ kt6a
                    have kb6 : ((w5.setCell ⟨bt, 1, none⟩ (.string (alO j1))).setCell ⟨bt, 4, none⟩ (.int .i64 ((j2 : Int) - 1))).drew.heap[w.heap.size]? = _ := (heap_set_far _ _ _ _ _ hnb.1.symm).trans ((heap_set_far _ _ _ _ _ hnb.1.symm).trans kb5)
                    have kr6 : ((w5.setCell ⟨bt, 1, none⟩ (.string (alO j1))).setCell ⟨bt, 4, none⟩ (.int .i64 ((j2 : Int) - 1))).drew.heap[w.heap.size + 1]? = _ := (heap_set_far _ _ _ _ _ hnb.2.1.symm).trans ((heap_set_far _ _ _ _ _ hnb.2.1.symm).trans kr5)
                    have hb6 : Below w.heap.size w ((w5.setCell ⟨bt, 1, none⟩ (.string (alO j1))).setCell ⟨bt, 4, none⟩ (.int .i64 ((j2 : Int) - 1))).drew := below_drw ((hb5.setCell hnb.2.2.2 _).setCell hnb.2.2.2 _)
                    have hnn : (some (⟨gr, 0, none⟩ : Addr)).map (·.block) ≠ some bt := fun e => hnb.2.2.1 (by injection e)
                    have ho6 : OwR RV 6 ((w5.setCell ⟨bt, 1, none⟩ (.string (alO j1))).setCell ⟨bt, 4, none⟩ (.int .i64 ((j2 : Int) - 1))).drew (w.heap.size + 2) 67 (some ⟨gr, 0, none⟩) n c1 hs := (OwV.st (OwV.st ho5 hnn) hnn).call RV.stay (below_drw (Below.refl _ _))
                    go_upto_region 7 with fail
                    clear kt5 kt5c kt5f kt6a kb5 kr5 hb5 ho5 hnn hn0 hn1
                    have hal := alO_ok j1
                    generalize ((w5.setCell ⟨bt, 1, none⟩ (.string (alO j1))).setCell ⟨bt, 4, none⟩ (.int .i64 ((j2 : Int) - 1))).drew = w6 at *
                    generalize alO j1 = v at *
                    have kt6c := Blk.cell kt6
                    have kb6c := Blk.cell kb6
                    have hgr6 := ho6.rd
                    obtain ⟨g7, o7, e7, hg7, hc7⟩ := RdV.opened hgr6 (by omega)
                    injection e7 with e7
                    injection e7 with e7 e8
                    subst e7 e8
                    obtain ⟨s0, s1, s2, s3, s4, s5⟩ := hc7 j hjn
                    rw [Nat.zero_add] at s0 s1 s2 s3 s4 s5
                    have kgf : ∀ i, w6.frozen? ⟨gr, i, none⟩ = false := by
                      rcases (OwW.vals ho6).2 with ⟨e1, e2⟩ | ⟨g5, cap, cur, hv, hbb, hh, _⟩
                      · injection e1 with e1; cases e1
                      · injection hv with e1; injection e1 with e1; injection e1 with e1 e2; subst e1; exact Blk.frozen hh
                    have hx1 : gr ≠ bt := hnb.2.2.1
                    have hx2 : bt ≠ gr := hx1.symm
                    have hx3 : gr ≠ w.heap.size := by omega
                    have hx4 : w.heap.size ≠ gr := hx3.symm
                    have hx5 : gr ≠ w.heap.size + 1 := by omega
                    refine wp_region_held_drew (S := fun W => W.cell? ⟨w.heap.size, 9, none⟩ = some (.slice (some ⟨gr, 0, none⟩) n c1) ∧ W.cell? ⟨bt, 0, none⟩ = some (.int .i64 r.num) ∧ W.cell? ⟨bt, 1, none⟩ = some (.string v) ∧ W.cell? ⟨bt, 2, none⟩ = some (.string r.nt) ∧ W.cell? ⟨bt, 3, none⟩ = some (.string r.tx) ∧ W.cell? ⟨bt, 4, none⟩ = some (.int .i64 ((j2 : Int) - 1)) ∧ W.cell? ⟨bt, 5, none⟩ = some (.int .i64 r.sq)) (by kernel_rfl) ?_ (fun hHeld0 => ?_)
                    · try dsimp only
                      first | go_keep | (simp [kt6c, kb6c]; done)
                    refine wpAnyH_take (i := 0) (oi := { dst := some 41, op := Go.Op.fieldAddr 31 (Go.Operand.tmp 3) 7, type := 0, pos := "law.go:42", after := #[], guard := none }) (v := .pointer (some ⟨w.heap.size, 9, none⟩)) rfl (by kernel_rfl) (by kernel_rfl) (by kernel_rfl) (fun _ _ _ h => h) (Or.inl ⟨by rfl, ?_⟩) (by assumption) ?_
                    · (intro W hSw; (try dsimp only at hSw); go_simp; try with_reducible rfl)
                    try simp only [Act.put, List.setIfInBounds_toArray, List.set_cons_zero, List.set_cons_succ]
                    refine wpAnyH_take (i := 1) (oi := { dst := some 42, op := Go.Op.load 29 (Go.Operand.tmp 41), type := 29, pos := "law.go:42", after := #[{ on := 0, ground := Go.Ground.data }], guard := none }) (v := .slice (some ⟨gr, 0, none⟩) n c1) rfl (by kernel_rfl) (by kernel_rfl) (by kernel_rfl) (fun _ _ _ h => h) (Or.inl ⟨by rfl, ?_⟩) (by assumption) ?_
                    · (intro W hSw; (try dsimp only at hSw); go_simp; try with_reducible rfl)
                    try simp only [Act.put, List.setIfInBounds_toArray, List.set_cons_zero, List.set_cons_succ]
                    refine wpAnyH_take (i := 2) (oi := { dst := some 43, op := Go.Op.move (Go.Operand.tmp 2), type := 3, pos := "law.go:42", after := #[], guard := none }) (v := .int .i64 x) rfl (by kernel_rfl) (by kernel_rfl) (by kernel_rfl) (fun _ _ _ h => h) (Or.inl ⟨by rfl, ?_⟩) (by assumption) ?_
                    · (intro W hSw; (try dsimp only at hSw); go_simp; try with_reducible rfl)
                    try simp only [Act.put, List.setIfInBounds_toArray, List.set_cons_zero, List.set_cons_succ]
                    refine wpAnyH_take (i := 3) (oi := { dst := some 44, op := Go.Op.move (Go.Operand.tmp 7), type := 3, pos := "law.go:42", after := #[], guard := none }) (v := .int .i64 (n : Int)) rfl (by kernel_rfl) (by kernel_rfl) (by kernel_rfl) (fun _ _ _ h => h) (Or.inl ⟨by rfl, ?_⟩) (by assumption) ?_
                    · (intro W hSw; (try dsimp only at hSw); go_simp; try with_reducible rfl)
                    try simp only [Act.put, List.setIfInBounds_toArray, List.set_cons_zero, List.set_cons_succ]
                    refine wpAnyH_take (i := 5) (oi := { dst := some 46, op := Go.Op.load 67 (Go.Operand.tmp 8), type := 67, pos := "law.go:42", after := #[], guard := none }) (v := .agg #[.int .i64 r.num, .string v, .string r.nt, .string r.tx, .int .i64 ((j2 : Int) - 1), .int .i64 r.sq]) rfl (by kernel_rfl) (by kernel_rfl) (by kernel_rfl) (fun _ _ _ h => h) (Or.inl ⟨by rfl, ?_⟩) (by assumption) ?_
                    · (intro W hSw; (try dsimp only at hSw); go_simp; try with_reducible rfl)
                    try simp only [Act.put, List.setIfInBounds_toArray, List.set_cons_zero, List.set_cons_succ]
                    refine wpAnyH_ready (rs := [4]) (by kernel_rfl) (by simp) ?_
                    refine AllReadyH.cons (o := { dst := some 45, op := Go.Op.call { callee := Go.Callee.value (Go.Operand.func 17), args := #[Go.Operand.tmp 43, Go.Operand.tmp 44], argTypes := #[3, 3] }, type := 3, pos := "law.go:42", after := #[{ on := 2, ground := Go.Ground.data }, { on := 3, ground := Go.Ground.data }], guard := none }) rfl (fun K hK => ?_) ?_
                    · go_simp
                      (go_at_call 17; refine (HR.out _).mono ?_; rintro e wn ⟨rfl, hwn⟩; obtain rfl := hwn.symm; clear hwn)
                      try go_wp2_with fail
                      refine hK.out _ _ ?_ (fun hHeld1 => ?_)
                      · try dsimp only
                        first | go_keep | (simp [kt6c, kb6c]; done)
                      clear hK K hHeld0
                      try simp only [Act.put, List.setIfInBounds_toArray, List.set_cons_zero, List.set_cons_succ]
                      refine wpAnyH_take (i := 6) (oi := { dst := some 47, op := Go.Op.indexAddr 29 (Go.Operand.tmp 42) (Go.Operand.tmp 45), type := 0, pos := "law.go:42", after := #[{ on := 1, ground := Go.Ground.data }, { on := 4, ground := Go.Ground.data }, { on := 0, ground := Go.Ground.phase }, { on := 1, ground := Go.Ground.phase }, { on := 2, ground := Go.Ground.phase }, { on := 3, ground := Go.Ground.phase }, { on := 4, ground := Go.Ground.phase }, { on := 5, ground := Go.Ground.phase }], guard := none }) (v := .pointer (some ⟨gr, j * 6, none⟩)) rfl (by kernel_rfl) (by kernel_rfl) (by kernel_rfl) (fun _ _ _ h => h) (Or.inl ⟨by rfl, ?_⟩) (by assumption) ?_
                      · (intro W hSw; (try dsimp only at hSw); go_simp; try with_reducible rfl)
                      try simp only [Act.put, List.setIfInBounds_toArray, List.set_cons_zero, List.set_cons_succ]
                      refine wpAnyH_ready (rs := [7]) (by kernel_rfl) (by simp) ?_
                      refine AllReadyH.cons (o := { dst := none, op := Go.Op.store 67 (Go.Operand.tmp 47) (Go.Operand.tmp 46), type := 0, pos := "law.go:42", after := #[{ on := 6, ground := Go.Ground.data }, { on := 5, ground := Go.Ground.data }, { on := 4, ground := Go.Ground.chain }, { on := 0, ground := Go.Ground.phase }, { on := 1, ground := Go.Ground.phase }, { on := 2, ground := Go.Ground.phase }, { on := 3, ground := Go.Ground.phase }, { on := 4, ground := Go.Ground.phase }, { on := 5, ground := Go.Ground.phase }], guard := none }) rfl (fun K hK => ?_) ?_
                      · go_simp
                        refine hK.out _ _ ?_ (fun hHeld2 => ?_)
                        · try dsimp only
                          first | go_keep | (simp [kt6c, kb6c]; done)
                        clear hK K hHeld1
                        try simp only [Act.put, List.setIfInBounds_toArray, List.set_cons_zero, List.set_cons_succ]
                        refine wpAnyH_done (by kernel_rfl) ?_ _
                        have hx6 : w.heap.size ≤ gr := by omega
                        have hjl : j < hs.length := by rw [← HLN.out]; exact hjn
                        obtain ⟨ho7, kb7, kr7, hb7⟩ := six_all ho6 hjl kb6 kr6 hb6 hx4 hx5.symm hx6 r.num v r.nt r.tx ((j2 : Int) - 1) r.sq
                        clear hjl
                        have hnr : (some (⟨gr, 0, none⟩ : Addr)).map (·.block) ≠ some (w.heap.size + 1) := fun e => hx5 (by injection e)
                        have HWA := Lib.hid (show Lit.wf (.int .i64 ((j2 : Int) - 1)) = true from WalkArith.wf_i64 (by omega))
                        have HWB : Hid (v.size ≤ maxLen) := Lib.hid (Nat.le_trans (by omega) hm16.out)
                        have HWR : Hid (∀ a ∈ hs.set j (⟨r.num, v, r.nt, r.tx, (j2 : Int) - 1, r.sq⟩ : Rv), RvWf a) := Lib.hid (fun a ha => by
                          rcases List.mem_or_eq_of_mem_set ha with h | h
                          · exact HWF.out.hs a h
                          · subst h
                            exact ⟨HRW2.out.num, HWB.out, HRW2.out.nt, HRW2.out.tx, HWA.out, HRW2.out.sq⟩)
                        clear kt6 kt6c kb6 kb6c kr6 hb6 ho6 s0 s1 s2 s3 s4 s5 kgf hgr6 hx1 hx2 hx3 hx4 hx5
                        go_upto_region 24 with fail
                        generalize ((((((w6.setCell ⟨gr, j * 6, none⟩ (.int .i64 r.num)).setCell ⟨gr, j * 6 + 1, none⟩ (.string v)).setCell ⟨gr, j * 6 + 2, none⟩ (.string r.nt)).setCell ⟨gr, j * 6 + 3, none⟩ (.string r.tx)).setCell ⟨gr, j * 6 + 4, none⟩ (.int .i64 ((j2 : Int) - 1))).setCell ⟨gr, j * 6 + 5, none⟩ (.int .i64 r.sq)).drew = y7 at *
                        have kcb := Blk.cell kb7
                        have kfr := Blk.frozen kr7
                        have kcr0 := Blk.cell kr7
                        have kcz := Blk.cell (ten_kz kr7 (.int .i64 kd) (.string us) (.string nt) (.int .i64 ts) (.string tn) (.int .i64 os) (.string on) (.string tx) (.int .i64 z) (.slice (some ⟨gr, 0, none⟩) n c1))
                        have HBF := Lib.hid (below_ten hb7 (Nat.le_succ _) (.int .i64 kd) (.string us) (.string nt) (.int .i64 ts) (.string tn) (.int .i64 os) (.string on) (.string tx) (.int .i64 z) (.slice (some ⟨gr, 0, none⟩) n c1))
                        have HOF := Lib.hid (OwV.ten ho7 hnr (.int .i64 kd) (.string us) (.string nt) (.int .i64 ts) (.string tn) (.int .i64 os) (.string on) (.string tx) (.int .i64 z) (.slice (some ⟨gr, 0, none⟩) n c1))
                        clear kb7 kr7 hb7
                        go_wp2_with fail
                        refine bodyPost_ret (v := .agg #[.int .i64 kd, .string us, .string nt, .int .i64 ts, .string tn, .int .i64 os, .string on, .string tx, .int .i64 z, .slice (some ⟨gr, 0, none⟩) n c1]) ?_ rfl ⟨⟨kd, us, nt, ts, tn, os, on, tx, z, (hs.set j ⟨r.num, v, r.nt, r.tx, (j2 : Int) - 1, r.sq⟩)⟩, (some ⟨gr, 0, none⟩), n, c1, rfl, HOF.out.rd, OwV.ty HOF.out, ⟨HWF.out.kd, HWF.out.us, HWF.out.nt, HWF.out.ts, HWF.out.tn, HWF.out.os, HWF.out.on, HWF.out.tx, HWF.out.n, HWR.out⟩, HBF.out, HC.out⟩
                        simp [results, Tryd.results12, go_sem, kcz]
                      exact AllReadyH.nil
                    exact AllReadyH.nil
                  exact AllReadyH.nil
                exact AllReadyH.nil
              exact AllReadyH.nil
            exact AllReadyH.nil
          exact AllReadyH.nil
        exact AllReadyH.nil
      exact AllReadyH.nil
theorem altered_any (cg : Cg) (A : Option Addr) (n cp : Nat) (how x : Int) (w : World) (h : RdR RV 6 w A n cp cg.hs) (ht : TyB w 67 A) (hwf : CgWf cg) (hsz : cg.tx.size ≤ 100000) (hl : n ≤ 1000) :
    Calls Tryd.prog 12 #[cval cg A n cp, .int .i64 how, .int .i64 x] w (RAlt (alC cg (how % 9) x) w) := altered_of cg A n cp how x w _ (Lib.hid rfl) h ht hwf hsz hl
end Go.Proofs.YtbeijpajodgpeaaDoor
