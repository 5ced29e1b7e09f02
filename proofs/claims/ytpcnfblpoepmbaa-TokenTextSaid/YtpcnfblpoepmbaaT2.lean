/- Rows of tokens; the walk of Scan. -/
import Derived.Test.YtpcnfblpoepmbaaT1
namespace Go.Proofs.Ytpcnfblpoepmbaa
open Go.RowKit
set_option linter.unusedSimpArgs false
set_option linter.unusedVariables false

/-- the cells of a token -/
def tv (x : Tok) : List Value := [.int .i64 (x.1 : Int), .int .i64 (x.2.1 : Int), .int .i64 (x.2.2 : Int)]
def RT (w : World) (x : Tok) (xs : List Value) : Prop := xs = tv x
theorem RT.stay : Stay RT 0 := ⟨fun _ _ _ _ _ h => h, fun _ _ _ _ _ _ _ h => h⟩
theorem tok_info : (Try.prog.info? 31).map (fun i => (i.zero, i.size, i.bytes)) = some (some (.agg #[.int .i64 0, .int .i64 0, .int .i64 0]), 3, 24) := by kernel_rfl
theorem OwT.alloc {w : World} {base e : Nat} {A : Option Addr} {n c : Nat} {L : List Tok} (h : OwR RT 3 w base e A n c L) (o : Obj) : OwR RT 3 (w.alloc o) base e A n c L :=
  h.call RT.stay ((Below.refl _ _).alloc (Nat.le_refl _) _)
theorem OwT.drewN {w : World} {base e : Nat} {A : Option Addr} {n c : Nat} {L : List Tok} (h : OwR RT 3 w base e A n c L) (k : Nat) : OwR RT 3 (w.drewN k) base e A n c L := ⟨h.len, h.cap, h.max, h.own⟩
theorem RdT.opened {w : World} {A : Option Addr} {n c : Nat} {L : List Tok} (h : RdR RT 3 w A n c L) (hn : 0 < n) :
    ∃ b off, A = some ⟨b, off, none⟩ ∧ b < w.heap.size ∧ ∀ k x, L[k]? = some x → w.cell? ⟨b, off + k * 3, none⟩ = some (.int .i64 (x.1 : Int)) ∧ w.cell? ⟨b, off + k * 3 + 1, none⟩ = some (.int .i64 (x.2.1 : Int)) ∧ w.cell? ⟨b, off + k * 3 + 2, none⟩ = some (.int .i64 (x.2.2 : Int)) := by
  obtain ⟨b, off, e, hb, hc⟩ := h.opened (by omega) hn (fun xs hx h0 => by have := hx.1; rw [h0] at this; simp at this; omega)
  refine ⟨b, off, e, hb, fun k x hk => ?_⟩
  obtain ⟨cs, hR, hl, hcell⟩ := hc k x hk
  have hR' : cs = tv x := hR
  subst hR'
  have q0 := hcell 0 _ rfl
  have q1 := hcell 1 _ rfl
  have q2 := hcell 2 _ rfl
  exact ⟨by simpa using q0, by rw [Nat.add_assoc]; exact q1, by rw [Nat.add_assoc]; exact q2⟩

set_option maxRecDepth 100000 in
set_option maxHeartbeats 8000000 in
theorem scan_any (s : ByteArray) (m : Int) (w : World) (hs : s.size ≤ 8192) (hm : w.cell? ⟨0, 0, none⟩ = some (.int .i64 m)) :
    Calls Try.prog 10 #[.string s] w fun e w' => ∃ A c, e = .returned (.tuple #[.slice A (SC (bl s)).length c, .int .i64 0]) ∧ OwR RT 3 w' w.heap.size 31 A (SC (bl s)).length c (SC (bl s)) ∧ Below w.heap.size w w' := by
  obtain ⟨i1, hi1, hz1, hs1, hb1'⟩ := info_parts tok_info
  have h0 : 0 < w.heap.size := World.block_lt_of_cell? _ _ hm
  have hs2 : ¬ (8192 : Int) < (s.size : Int) := by omega
  have HE : Hid (∀ a text, scG (bl s) a text = if a < s.size then (if (TK ((bl s).drop a)).1 = 0 then scG (bl s) (a + 1) text else (if text < a then [(1, text, a)] else []) ++ ((TK ((bl s).drop a)).1, a, a + (TK ((bl s).drop a)).2) :: scG (bl s) (a + (TK ((bl s).drop a)).2) (a + (TK ((bl s).drop a)).2)) else if text < s.size then [(1, text, s.size)] else []) := Lib.hid fun a text => by
    rw [← bl_len s]
    by_cases h : a < (bl s).length
    · rw [if_pos h]
      by_cases hk : (TK ((bl s).drop a)).1 = 0
      · rw [if_pos hk, scG_text h hk]
      · rw [if_neg hk, scG_tok h hk]
    · rw [if_neg h, scG_end h]
  have HB : Hid (∀ a, (TK ((bl s).drop a)).1 ≠ 0 → 0 < (TK ((bl s).drop a)).2 ∧ a + (TK ((bl s).drop a)).2 ≤ s.size) := Lib.hid fun a h => by
    have := TK_drop h
    rw [bl_len] at this
    exact ⟨this.1, this.2.1⟩
  have HF : Hid (∀ a W, a < s.size → W.cell? ⟨0, 0, none⟩ = some (.int .i64 m) → Calls Try.prog 20 #[.string (s.extract a s.size)] W fun e w' => e = .returned (two (TK ((bl s).drop a))) ∧ Below W.heap.size W w') := Lib.hid fun a W ha hW => by
    have := first_any (s.extract a s.size) m W (by rw [ByteArray.size_extract]; omega) (by rw [ByteArray.size_extract]; omega) hW
    rwa [bl_ext] at this
  have HS : Hid (SC (bl s) = scG (bl s) 0 0) := Lib.hid rfl
  generalize SC (bl s) = S at *
  generalize hG : scG (bl s) = G at *
  clear hG
  generalize hTK : (fun a => TK ((bl s).drop a)) = T at *
  have hT : ∀ a, TK ((bl s).drop a) = T a := fun a => by rw [← hTK]
  simp only [hT] at HE HB HF
  clear hT hTK
  go_enter Try.func10, Try.ntmps10
  go_wp2
  go_loopw [4, 5, 6] (fun v4 v5 v6 wr => ∃ (a text : Nat) (A : Option Addr) (n c : Nat) (L : List Tok), v4 = .slice A n c ∧ v5 = .int .i64 text ∧ v6 = .int .i64 a ∧ text ≤ a ∧ a ≤ s.size ∧ n ≤ text ∧ OwR RT 3 wr w.heap.size 31 A n c L ∧ Below w.heap.size w wr ∧ Hid (L ++ G a text = S)) (fun _ _ v6 _ => s.size - (intOf v6).toNat)
  case atStart => exact ⟨0, 0, none, 0, 0, [], rfl, rfl, rfl, Nat.le_refl _, Nat.zero_le _, Nat.le_refl _, OwR.nil _ _ _ _ _, Below.refl _ _, Lib.hid (by rw [HS.out]; rfl)⟩
  case round =>
    obtain ⟨a, text, A, n, c, L, rfl, rfl, rfl, h1, h2, h3, hown, hbw, HG⟩ := hrel
    obtain rfl : n = L.length := hown.len
    have hmr := (hbw.cell (p := ⟨0, 0, none⟩) h0).trans hm
    have hbz := hbw.size
    by_cases hlt : a < s.size
    · have HFa := Lib.hid fun W => HF.out a W hlt
      have HBa := Lib.hid (HB.out a)
      have HG2 := Lib.hid (HE.out a text)
      obtain ⟨k, n2, hT⟩ : ∃ k n2, T a = (k, n2) := ⟨_, _, rfl⟩
      rw [hT] at HFa HBa HG2
      have HFb : Hid (∀ W, W.cell? ⟨0, 0, none⟩ = some (.int .i64 m) → Calls Try.prog 20 #[.string (s.extract a s.size)] W fun e w' => e = .returned (.tuple #[.int .i64 (k : Int), .int .i64 (n2 : Int)]) ∧ Below W.heap.size W w') := HFa
      clear hT HFa
      have g1 : (0 : Int) ≤ (a : Int) := by omega
      have g2 : (a : Int) ≤ (s.size : Int) := by omega
      by_cases hk : k = 0
      · have hk' : ((k : Int) == 0) = true := by simp [hk]
        have HG3 : Hid (L ++ G (a + 1) text = S) := Lib.hid (by have h := HG.out; rw [HG2.out, if_pos hlt, if_pos hk] at h; exact h)
        clear hk HBa HG2 HG
        go_wp2_with (first | (go_at_call 20; ((with_reducible refine (HFb.out _ hmr).mono ?_); rintro e w1 ⟨rfl, hb1⟩)))
        go_roundw
        case rel => exact ⟨a + 1, text, A, _, c, L, rfl, rfl, by go_num, by omega, by omega, h3, hown.call RT.stay hb1, below_call hbw hb1, HG3⟩
        case measure => simp [intOf]; omega
      · have hk' : ((k : Int) == 0) = false := by simp; exact hk
        obtain ⟨hn1, hn2⟩ := HBa.out hk
        obtain ⟨e3, he3⟩ : ∃ e3, e3 = a + n2 := ⟨_, rfl⟩
        have HG3 : Hid (L ++ ((if text < a then [(1, text, a)] else []) ++ (k, a, e3) :: G e3 e3) = S) := Lib.hid (by have h := HG.out; rw [HG2.out, if_pos hlt, if_neg hk] at h; rw [he3]; exact h)
        have hw3 : IntKind.i64.wrap ((a : Int) + (n2 : Int)) = (e3 : Int) := by rw [IntKind.wrap_i64]; omega
        have hw4 : (a : Int) + (n2 : Int) = (e3 : Int) := by omega
        have he4 : e3 ≤ s.size := by omega
        have he5 : a < e3 := by omega
        clear hk HBa HG2 HG he3 hn1 hn2
        by_cases ht : text < a
        · have ht' : (text : Int) < (a : Int) := by omega
          have HG4 : Hid (L ++ [(1, text, a)] ++ [(k, a, e3)] ++ G e3 e3 = S) := Lib.hid (by have h := HG3.out; rw [if_pos ht] at h; simpa using h)
          clear HG3
          go_wp2_with (first
            | (go_at_call 20; ((with_reducible refine (HFb.out _ hmr).mono ?_); rintro e w1 ⟨rfl, hb1⟩; have ho1 := hown.call RT.stay hb1; have hb01 := below_call hbw hb1; have hbz1 := hb01.size; clear hown))
            | (at_builtin; refine wpList_append_r _ rfl (.tmp 30) (.tmp 34) 23 rfl 3 24 w.heap.size 31 i1 (.agg #[.int .i64 0, .int .i64 0, .int .i64 0]) RT.stay (by decide) Try.underlying23 hi1 hz1 hs1 hb1' rfl (by omega) A L.length c L rfl (OwT.alloc ho1 _) _ 1 1 rfl [(1, text, a)] [.int .i64 1, .int .i64 (text : Int), .int .i64 (a : Int)] (Reads.lit (cs := #[.int .i64 1, .int .i64 (text : Int), .int .i64 (a : Int)]) rfl) (Fits.one rfl rfl) rfl ?_ ?_ ?_ ?_ ?_; (focus (simp [Value.oneCell'])); (focus (unfold maxLen; omega)); (focus omega); (focus (simp; omega)); intro A3 c3 w3 ho3 hg3; (have hb03 := (Below.alloc hb01 hbz1 _).trans hg3.b); (have hbz3 := hb03.size); clear hg3 ho1)
            | (at_builtin; refine wpList_append_r _ rfl (.tmp 36) (.tmp 43) 23 rfl 3 24 w.heap.size 31 i1 (.agg #[.int .i64 0, .int .i64 0, .int .i64 0]) RT.stay (by decide) Try.underlying23 hi1 hz1 hs1 hb1' rfl (by omega) A3 (L.length + 1) c3 (L ++ [(1, text, a)]) rfl (OwT.alloc ho3 _) _ 1 1 rfl [(k, a, e3)] [.int .i64 (k : Int), .int .i64 (a : Int), .int .i64 (e3 : Int)] (Reads.lit (cs := #[.int .i64 (k : Int), .int .i64 (a : Int), .int .i64 (e3 : Int)]) rfl) (Fits.one rfl rfl) rfl ?_ ?_ ?_ ?_ ?_; (focus (simp [Value.oneCell'])); (focus (unfold maxLen; omega)); (focus omega); (focus (simp; omega)); intro A4 c4 w4 ho4 hg4; (have hb04 := (Below.alloc hb03 hbz3 _).trans hg4.b); clear hg4))
          go_roundw
          case rel => exact ⟨e3, e3, A4, _, c4, _, rfl, rfl, rfl, Nat.le_refl _, he4, by omega, ho4, hb04, HG4⟩
          case measure => simp [intOf]; omega
        · have ht' : ¬ (text : Int) < (a : Int) := by omega
          have HG4 : Hid (L ++ [(k, a, e3)] ++ G e3 e3 = S) := Lib.hid (by have h := HG3.out; rw [if_neg ht] at h; simpa using h)
          clear HG3
          go_wp2_with (first
            | (go_at_call 20; ((with_reducible refine (HFb.out _ hmr).mono ?_); rintro e w1 ⟨rfl, hb1⟩; have ho1 := hown.call RT.stay hb1; have hb01 := below_call hbw hb1; have hbz1 := hb01.size; clear hown))
            | (at_builtin; refine wpList_append_r _ rfl (.tmp 36) (.tmp 43) 23 rfl 3 24 w.heap.size 31 i1 (.agg #[.int .i64 0, .int .i64 0, .int .i64 0]) RT.stay (by decide) Try.underlying23 hi1 hz1 hs1 hb1' rfl (by omega) A L.length c L rfl (OwT.alloc ho1 _) _ 1 1 rfl [(k, a, e3)] [.int .i64 (k : Int), .int .i64 (a : Int), .int .i64 (e3 : Int)] (Reads.lit (cs := #[.int .i64 (k : Int), .int .i64 (a : Int), .int .i64 (e3 : Int)]) rfl) (Fits.one rfl rfl) rfl ?_ ?_ ?_ ?_ ?_; (focus (simp [Value.oneCell'])); (focus (unfold maxLen; omega)); (focus omega); (focus (simp; omega)); intro A4 c4 w4 ho4 hg4; (have hb04 := (Below.alloc hb01 hbz1 _).trans hg4.b); clear hg4))
          go_roundw
          case rel => exact ⟨e3, e3, A4, _, c4, _, rfl, rfl, rfl, Nat.le_refl _, he4, by omega, ho4, hb04, HG4⟩
          case measure => simp [intOf]; omega
    · obtain rfl : a = s.size := by omega
      have HG2 : Hid (L ++ (if text < s.size then [(1, text, s.size)] else []) = S) := Lib.hid (by have h := HG.out; rw [HE.out, if_neg hlt] at h; exact h)
      clear HG
      by_cases ht : text < s.size
      · have ht' : (text : Int) < (s.size : Int) := by omega
        have HG4 : Hid (L ++ [(1, text, s.size)] = S) := Lib.hid (by have h := HG2.out; rwa [if_pos ht] at h)
        have HGL : Hid (S.length = L.length + 1) := Lib.hid (by rw [← HG4.out]; simp)
        clear HG2
        go_wp2_with (first
          | (at_builtin; refine wpList_append_r _ rfl (.tmp 53) (.tmp 58) 23 rfl 3 24 w.heap.size 31 i1 (.agg #[.int .i64 0, .int .i64 0, .int .i64 0]) RT.stay (by decide) Try.underlying23 hi1 hz1 hs1 hb1' rfl (by omega) A L.length c L rfl (OwT.alloc hown _) _ 1 1 rfl [(1, text, s.size)] [.int .i64 1, .int .i64 (text : Int), .int .i64 (s.size : Int)] (Reads.lit (cs := #[.int .i64 1, .int .i64 (text : Int), .int .i64 (s.size : Int)]) rfl) (Fits.one rfl rfl) rfl ?_ ?_ ?_ ?_ ?_; (focus (simp [Value.oneCell'])); (focus (unfold maxLen; omega)); (focus omega); (focus (simp; omega)); intro A4 c4 w4 ho4 hg4; (have hb04 := (Below.alloc hbw hbz _).trans hg4.b); clear hg4))
        go_ret2
        exact ⟨A4, c4, by rw [HGL.out]; rfl, by rw [HGL.out, ← HG4.out]; exact ho4, hb04⟩
      · have ht' : ¬ (text : Int) < (s.size : Int) := by omega
        have HG4 : Hid (L = S) := Lib.hid (by have h := HG2.out; rw [if_neg ht, List.append_nil] at h; exact h)
        clear HG2
        go_wp2
        go_ret2
        exact ⟨A, c, by rw [← HG4.out]; rfl, by rw [← HG4.out]; exact hown, hbw⟩
end Go.Proofs.Ytpcnfblpoepmbaa
