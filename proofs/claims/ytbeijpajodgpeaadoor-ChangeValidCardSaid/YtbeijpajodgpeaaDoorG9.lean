/- The walks of Changes and Encoded. -/
import Derived.Test.YtbeijpajodgpeaaDoorG6
import Derived.Test.YtbeijpajodgpeaaDoorC25
namespace Go.Proofs.YtbeijpajodgpeaaDoor
open Go.RowKit
set_option linter.unusedSimpArgs false
set_option linter.unusedVariables false

/-- what Changes makes -/
def RChs (w0 W : World) (g : Nat) (A : Option Addr) (n c : Nat) (zs : List Int) (e : Ending) (W' : World) : Prop := ∃ (A1 : Option Addr) (n1 c1 : Nat) (L : List Cg), e = .returned (.slice A1 n1 c1) ∧ OwR RCT 10 W' W.heap.size 31 A1 n1 c1 L ∧ (∀ a ∈ L, MC a) ∧ 1 ≤ L.length ∧ L.length ≤ 2 ∧ SG w0 W' g A n c zs ∧ W.grownBy W' (some g)

set_option maxRecDepth 100000 in
set_option maxHeartbeats 16000000 in
theorem changes_mk (w0 : World) (g : Nat) (A : Option Addr) (n c : Nat) (zs : List Int) (ck : Int) (W : World) (h : SG w0 W g A n c zs) (hck : 0 ≤ ck ∧ ck ≤ 8) :
    Calls Tryd.prog 10 #[.pointer (some ⟨g, 0, none⟩), .int .i64 ck] W (RChs w0 W g A n c zs) := by
  obtain ⟨i0, hi0, hz0, hz1, hz2⟩ := info_parts cg_info
  have hgl := h.lt
  go_enter Tryd.func10, Tryd.ntmps10
  go_wp2_with fail
  go_at_call 26
  refine (h.nxt2 6 (by omega) (by omega)).mono ?_
  rintro e w1 ⟨k, rfl, q0, q1, hS1, hg⟩
  have hd0 : 0 ≤ k.tdiv 3 := Int.tdiv_nonneg q0 (by decide)
  have hd1 : k.tdiv 3 ≤ 1 := by
    rw [Int.tdiv_eq_ediv_of_nonneg q0]; omega
  obtain ⟨d, hd⟩ := Int.eq_ofNat_of_zero_le hd0
  have hde : k / 3 = (d : Int) := by rw [← Int.tdiv_eq_ediv_of_nonneg q0]; exact hd
  rw [hd] at hd1
  clear h q0 q1 hd0
  go_wp2_with fail
  go_loopw [5, 6] (fun a q wr => ∃ (A1 : Option Addr) (n1 c1 : Nat) (L : List Cg) (i : Nat), a = .slice A1 n1 c1 ∧ q = .int .i64 i ∧ OwR RCT 10 wr W.heap.size 31 A1 n1 c1 L ∧ Hid (∀ a ∈ L, MC a) ∧ n1 + i ≤ 2 ∧ 1 ≤ n1 + i ∧ SG w0 wr g A n c zs ∧ W.grownBy wr (some g)) (fun _ q _ => (intOf q).toNat)
  case atStart => exact ⟨none, 0, 0, [], d + 1, rfl, by go_num, OwR.nil _ _ _ _ _, Lib.hid (fun a ha => by cases ha), by omega, by omega, hS1, hg⟩
  case round =>
    obtain ⟨A1, n1, c1, L, i, rfl, rfl, ho, HMC, hn2, hn1, hS, hq⟩ := hrel
    clear hS1 hg
    have HLN := Lib.hid ho.len
    cases i with
    | zero =>
      go_wp2_with fail
      go_ret
      exact ⟨A1, n1, c1, L, rfl, ho, HMC.out, by rw [← HLN.out]; omega, by rw [← HLN.out]; omega, hS, hq⟩
    | succ i =>
      have z1 : (0 : Int) < ((i + 1 : Nat) : Int) := by omega
      have hgs := hS.s
      go_wp2_with fail
      go_at_call 20
      refine (change_mk w0 g A n c zs ck wr hS hck).mono ?_
      rintro e w2 ⟨cg, A2, n2, c2, rfl, hmc, hor, hS2, hg2⟩
      obtain ⟨ks, sd, _, hgb⟩ := hgs
      have ho2 := OwR.grb RCT.stay ho hg2 hgl hgb (by decide)
      have hq2 := hq.trans hg2
      have hrd := hor.rd
      have hty := OwV.ty hor
      have HFT := Lib.hid (fun W (hW : Below w2.heap.size w2 W) => cg_fits (a := cg) (RdV.below hrd hW) (hty.below hW))
      have HMC2 : Hid (∀ r ∈ L ++ [cg], MC r) := Lib.hid (fun r hr => by
        rcases List.mem_append.1 hr with h | h
        · exact HMC.out r h
        · simp only [List.mem_singleton] at h
          subst h
          exact hmc)
      clear hS ho hq hg2 hgb hrd hty hor hmc
      unfold cval
      have hl4 : Below w2.heap.size w2 (w2.alloc (.cells #[.int .i64 cg.kd, .string cg.us, .string cg.nt, .int .i64 cg.ts, .string cg.tn, .int .i64 cg.os, .string cg.on, .string cg.tx, .int .i64 cg.n, .slice A2 n2 c2] 31)) := (Below.refl _ _).alloc (Nat.le_refl _) _
      have hol := ho2.call RCT.stay hl4
      have hyz := hq2.size
      clear ho2
      go_wp2_with (at_builtin; go_must (refine wpList_append_r _ rfl (.tmp 15) (.tmp 19) 23 rfl 10 136 W.heap.size 31 i0 _ RCT.stay (by decide) Tryd.underlying23 hi0 hz0 hz1 hz2 rfl (by omega) A1 n1 c1 L rfl hol (some ⟨w2.heap.size, 0, none⟩) 1 1 rfl [cg] _ (Reads.litAt (cs := #[.int .i64 cg.kd, .string cg.us, .string cg.nt, .int .i64 cg.ts, .string cg.tn, .int .i64 cg.os, .string cg.on, .string cg.tx, .int .i64 cg.n, .slice A2 n2 c2]) rfl rfl) (HFT.out _ hl4) rfl ?_ ?_ ?_ ?_ ?_; (focus (simp [Value.oneCell'])); (focus (unfold maxLen; omega)); (focus omega); (focus (rw [size_alloc_]; omega)); intro A5 c5 w5 ho5 hg5))
      have hS5 : SG w0 w5 g A n c zs := ⟨hS2.rd, (below_call hS2.b hl4).trans (hg5.b.mono (by have := hS2.b.size; have := hS2.g0; omega)), hS2.g0, by
        obtain ⟨k, seed, h3, hh⟩ := hS2.s
        exact ⟨k, seed, h3, (hg5.b.block g hgl).trans (heap_call hl4 hh)⟩⟩
      have hq5 := grown_own (hq2.trans (World.grownBy_alloc w2 _ (some g))) hg5.b
      go_roundw
      case rel => exact ⟨A5, n1 + 1, c5, _, i, rfl, by go_num, ho5, HMC2, by omega, by omega, hS5, hq5⟩
      case measure => simp [intOf]
theorem ck_ok (v : Int) : 0 ≤ v % 9 ∧ v % 9 ≤ 8 := by
  have h1 := Int.emod_nonneg v (by decide : (9 : Int) ≠ 0)
  have h2 := Int.emod_lt_of_pos v (by decide : (0 : Int) < 9)
  omega
/-- From, and the source's state -/
theorem from_sg (A : Option Addr) (n c : Nat) (zs : List Int) (w0 w : World) (hr : RdN w0 A n c zs) (hb : Below w0.heap.size w0 w) :
    Calls Tryd.prog 11 #[.slice A n c] w fun e w' => ∃ g, e = .returned (.pointer (some ⟨g, 0, none⟩)) ∧ SG w0 w' g A n c zs ∧ Below w.heap.size w w' :=
  (from_any A n c zs w ⟨hr.len, hr.cap, hr.max, (hr.reads.below hb).more hb.size⟩).mono fun e w' ⟨v, he, ⟨g, hv, hg, hs⟩, hb2⟩ => ⟨g, by rw [he, hv], ⟨hr, below_call hb hb2, Nat.le_trans hb.size hg, hs⟩, hb2⟩
end Go.Proofs.YtbeijpajodgpeaaDoor
