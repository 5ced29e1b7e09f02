/- The walk of QueueOrder. -/
import Derived.Test.YtobgnncdldfkkaaDoorQW
import Derived.Test.YtobgnncdldfkkaaDoorQY
import Derived.Test.YtobgnncdldfkkaaDoorZ3
import Derived.Test.YtobgnncdldfkkaaDoorQI2
import Derived.Test.YtobgnncdldfkkaaDoorQD
namespace Go.Proofs.YtobgnncdldfkkaaDoor
open Go.RowKit
set_option linter.unusedSimpArgs false
set_option linter.unusedVariables false

/-- the jobs by stage, below a stage -/
def wantS (L : List Jb) : Nat → List Jb
  | 0 => []
  | 1 => []
  | s + 2 => wantS L (s + 1) ++ L.filter (fun a => a.st == ((s + 1 : Nat) : Int))
/-- the order in which the jobs are taken -/
def ordr (L : List Jb) : List Jb := L.filter (fun a => je a) ++ L.filter (fun a => !je a)
theorem wantS_eq {L : List Jb} (h : ∀ j ∈ L, MJ j) : wantS L 3 = ordr L := by
  unfold ordr
  show ([] ++ L.filter (fun a => a.st == ((0 + 1 : Nat) : Int))) ++ L.filter (fun a => a.st == ((1 + 1 : Nat) : Int)) = _
  rw [List.nil_append]
  congr 1
  · apply List.filter_congr
    intro x hx
    rcases (h x hx).stage with e | e <;> (unfold je; rw [e]; rfl)
  · apply List.filter_congr
    intro x hx
    rcases (h x hx).stage with e | e <;> (unfold je; rw [e]; rfl)
theorem wantS_succ (L : List Jb) {s : Nat} (h : 1 ≤ s) : wantS L (s + 1) = wantS L s ++ L.filter (fun a => a.st == (s : Int)) := by
  obtain ⟨k, rfl⟩ : ∃ k, s = k + 1 := ⟨s - 1, by omega⟩
  rfl
theorem ordr_take {X : List Jb} {i : Nat} (h : tkAt X [] = some i) : ordr X = X.getD i jb0 :: ordr (X.eraseIdx i) := by
  have hi := tkAt_lt h
  have hg : X.getD i jb0 = X[i] := by simp [List.getD, List.getElem?_eq_getElem hi]
  have hX : X = X.take i ++ X[i] :: X.drop (i + 1) := by
    rw [← List.drop_eq_getElem_cons hi, List.take_append_drop]
  have hE : X.eraseIdx i = X.take i ++ X.drop (i + 1) := List.eraseIdx_eq_take_drop_succ X i
  unfold tkAt at h
  rcases fIdx_range (fun a => je a) X with ⟨h1, h2⟩ | ⟨k, h1, h2, h3, h4⟩
  · have he : eIdx X = -1 := h1
    rw [he, if_neg (by decide)] at h
    split at h
    · cases h
    · injection h with h
      subst h
      have hne : X.filter (fun a => je a) = [] := by
        rw [List.filter_eq_nil_iff]
        intro a ha
        have := List.any_eq_false.1 h2 a ha
        simpa using this
      unfold ordr
      cases X with
      | nil => simp at hi
      | cons y r =>
        have hy : je y = false := by have := List.any_eq_false.1 h2 y (by simp); simpa using this
        have hr : r.filter (fun a => je a) = [] := by
          simp only [List.filter_cons, hy] at hne
          simpa using hne
        simp [List.filter_cons, hy, hr]
  · have he : eIdx X = k := h1
    rw [he, if_pos (by omega)] at h
    have hk : k = i := by simpa using h
    subst hk
    have hj : je X[k] = true := by
      have := h3
      simpa [List.getD, List.getElem?_eq_getElem h2] using this
    have hpre : (X.take k).filter (fun a => je a) = [] := by
      rw [List.filter_eq_nil_iff]
      intro a ha
      obtain ⟨m, hm, e⟩ := List.mem_iff_getElem.1 ha
      rw [List.getElem_take] at e
      have hmk : m < k := by rw [List.length_take] at hm; omega
      have := h4 m hmk
      have hmX : m < X.length := by omega
      simp only [List.getD, List.getElem?_eq_getElem hmX, Option.getD_some] at this
      rw [← e]
      simpa using this
    rw [hg, hE]
    unfold ordr
    conv => lhs; rw [hX]
    simp only [List.filter_append, List.filter_cons, hpre, hj, List.nil_append]
    simp
theorem take_none2 {L : List Jb} (h : tkAt L [] = none) : L = [] := by
  unfold tkAt at h
  split at h
  · cases h
  · split at h
    · rename_i hh
      rcases hh with hh | hh
      · exact hh
      · simp at hh
    · cases h
theorem done_one (j : Jb) : doneL [j] j = [] := by
  have : jIdx j [j] = 0 := by
    unfold jIdx fIdx
    simp
  unfold doneL
  rw [this]
  simp
theorem filter_take (L : List Jb) (P : Jb → Bool) {k : Nat} (hk : k < L.length) : (L.take (k + 1)).filter P = (L.take k).filter P ++ (if P (L.getD k jb0) then [L.getD k jb0] else []) := by
  rw [List.take_add_one, List.getElem?_eq_getElem hk, List.filter_append]
  have hg : L.getD k jb0 = L[k] := by simp [List.getD, List.getElem?_eq_getElem hk]
  rw [hg]
  simp [List.filter_cons]

set_option maxRecDepth 100000 in
set_option maxHeartbeats 16000000 in
theorem queueorder_walk (A2 : Option Addr) (n2 c2 : Nat) (zs : List Int) (x : Int) (w : World) (hr : RdN w A2 n2 c2 zs) (hx : Hm x w) :
    Calls Tryd.prog 7 #[.slice A2 n2 c2] w fun e w' => e = .returned (.bool true) ∧ Below w.heap.size w w' := by
  have HAW := Lib.hid fun (W : World) (hW : Below w.heap.size w W) => awake_any x W (hx.below hW)
  have HX := Lib.hid fun (W : World) (hW : Below w.heap.size w W) => hx.below hW
  have HM := Lib.hid (made_any A2 n2 c2 zs w hr)
  obtain ⟨i0, hi0, hz0, hz1, hz2⟩ := info_parts job_info2
  clear hr hx
  go_enter Tryd.func7, Tryd.ntmps7
  go_wp2_with fail
  go_at_call 15
  refine HM.out.mono ?_
  rintro e w1 ⟨L, M, A, n, c, B, m, d, rfl, hL1, hM1, hLj, hMj, hnd, hl1, hl2, hb1⟩
  have hn : n ≤ 11 := by have := hL1.len; omega
  have HNL := Lib.hid hL1.len
  have HWO := Lib.hid (wantS_eq hLj)
  have hal : Below w1.heap.size w1 (w1.alloc (.cells #[.slice A n c, .slice none 0 0] 24)) := (Below.refl _ _).alloc (Nat.le_refl _) _
  have k3 : (w1.alloc (.cells #[.slice A n c, .slice none 0 0] 24)).heap[w1.heap.size]? = some (.cells #[.slice A n c, .slice none 0 0] 24 (0, 0)) := heap_new rfl
  have hL2 := RdJ.below hL1 hal
  have hb2 := below_call hb1 hal
  have hg3 : w.heap.size ≤ w1.heap.size := hb1.size
  have hg3l := Blk.lt k3
  go_wp2_with fail
  generalize w1.alloc (.cells #[.slice A n c, .slice none 0 0] 24) = w2 at k3 hL2 hb2 hg3l ⊢
  generalize w1.heap.size = g3 at k3 hg3 hg3l ⊢
  clear hal hL1 hM1 hb1 HM hnd hMj
  have HO1 := Lib.hid fun (h : 0 < n) => RdJ.opened hL2 h
  go_loopw [4, 6] (fun v4 v6 wx => ∃ (s : Nat) (A4 : Option Addr) (n4 c4 : Nat), 1 ≤ s ∧ s ≤ 3 ∧ v4 = .slice A4 n4 c4 ∧ v6 = .int .i64 s ∧ Below w2.heap.size w2 wx ∧ OwR RJ 4 wx w2.heap.size 28 A4 n4 c4 (wantS L s) ∧ n4 ≤ (s - 1) * 11) (fun _ v6 _ => 3 - (intOf v6).toNat)
  case atStart => exact ⟨1, none, 0, 0, Nat.le_refl _, by omega, rfl, rfl, Below.refl _ _, OwR.nil _ _ _ _ _, Nat.zero_le _⟩
  case round =>
    obtain ⟨s, A4, n4, c4, hs1, hs3, rfl, rfl, hbw, ho4, hn4⟩ := hrel
    by_cases hs : s ≤ 2
    · obtain ⟨w3, rfl⟩ : ∃ q, q = wr := ⟨_, rfl⟩
      have hsi : (s : Int) ≤ 2 := by omega
      have HWS := Lib.hid (wantS_succ L hs1)
      generalize wantS L s = LS at *
      have hb23 := hbw
      have kq := Blk.cell (heap_call hb23 k3)
      go_wp2_with fail
      go_loopw [4, 7] (fun v4 v7 wx => ∃ (k : Nat) (A5 : Option Addr) (n5 c5 : Nat), k ≤ n ∧ v4 = .slice A5 n5 c5 ∧ v7 = .int .i64 k ∧ Below w2.heap.size w2 wx ∧ OwR RJ 4 wx w2.heap.size 28 A5 n5 c5 (LS ++ (L.take k).filter (fun a => a.st == (s : Int))) ∧ n5 ≤ n4 + k) (fun _ v7 _ => n - (intOf v7).toNat)
      case atStart => exact ⟨0, A4, n4, c4, Nat.zero_le _, rfl, rfl, hbw, by simpa using ho4, Nat.le_refl _⟩
      case round =>
        obtain ⟨k, A5, n5, c5, hk, rfl, rfl, hbx, ho5, hn5⟩ := hrel
        have kq5 := heap_call hbx k3
        have kc5 := Blk.cell kq5
        have hbxz := hbx.size
        clear ho4 hbw hb23 kq
        by_cases hlt : k < n
        · obtain ⟨b, off, rfl, hb, hc⟩ := HO1.out (by omega)
          obtain ⟨x1, x2, x3, x4⟩ := hc k hlt
          have c1 := (hbx.cell (p := ⟨b, off + k * 4, none⟩) hb).trans x1
          have c2 := (hbx.cell (p := ⟨b, off + k * 4 + 1, none⟩) hb).trans x2
          have c3 := (hbx.cell (p := ⟨b, off + k * 4 + 2, none⟩) hb).trans x3
          have c4 := (hbx.cell (p := ⟨b, off + k * 4 + 3, none⟩) hb).trans x4
          have z0 : (0 : Int) ≤ (k : Int) := by omega
          have z1 : (k : Int) < (n : Int) := by omega
          have HF := Lib.hid (filter_take L (fun a => a.st == (s : Int)) (k := k) (by rw [← HNL.out]; exact hlt))
          have hn5b : n5 ≤ 60 := by omega
          clear hc x1 x2 x3 x4 HO1
          generalize L.getD k jb0 = jj at *
          obtain ⟨st, us, sp, nm⟩ := jj
          simp only [] at c1 c2 c3 c4 HF
          cases hst : (st == (s : Int)) with
          | true =>
            rw [hst] at HF
            have hstq : st = (s : Int) := by simpa using hst
            have HF2 : Hid ((LS ++ (L.take k).filter (fun a => a.st == (s : Int))) ++ [⟨st, us, sp, nm⟩] = LS ++ (L.take (k + 1)).filter (fun a => a.st == (s : Int))) := Lib.hid (by rw [HF.out, List.append_assoc]; rfl)
            have hlitf := Lib.hid (fun W => RdJ.lit (w := W) (t := 0) ⟨st, us, sp, nm⟩)
            clear HF hstq
            generalize LS ++ (L.take k).filter (fun a => a.st == (s : Int)) = LK at *
            go_wp2_with (first
              | (at_builtin; go_must (refine wpList_append_r _ rfl (.tmp 34) (.tmp 40) 22 rfl 4 48 w2.heap.size 28 i0 _ RJ.stay (by decide) Tryd.underlying22 hi0 hz0 hz1 hz2 rfl (by omega) A5 n5 c5 LK rfl (ho5.call RJ.stay ((Below.refl _ _).alloc (Nat.le_refl _) _)) _ 1 1 rfl [⟨st, us, sp, nm⟩] _ (Reads.lit (cs := #[.int .i64 st, .string us, .int .i64 sp, .string nm]) rfl) (hlitf.out _) rfl ?_ ?_ ?_ ?_ ?_; (focus (simp [Value.oneCell'])); (focus (unfold maxLen; omega)); (focus omega); (focus (rw [size_alloc_]; omega)); intro A6 c6 w6 ho6 hg6)))
            have hb6 := (hbx.alloc hbxz (.cells #[.int .i64 st, .string us, .int .i64 sp, .string nm] 28)).trans hg6.b
            go_roundw
            case rel => exact ⟨k + 1, A6, n5 + 1, c6, by omega, rfl, by go_num, hb6, by rw [← HF2.out]; exact ho6, by omega⟩
            case measure => simp [intOf]; omega
          | false =>
            rw [hst] at HF
            have HF2 : Hid (LS ++ (L.take k).filter (fun a => a.st == (s : Int)) = LS ++ (L.take (k + 1)).filter (fun a => a.st == (s : Int))) := Lib.hid (by rw [HF.out]; simp)
            clear HF
            go_wp2_with fail
            go_roundw
            case rel => exact ⟨k + 1, A5, n5, c5, by omega, rfl, by go_num, hbx, by rw [← HF2.out]; exact ho5, by omega⟩
            case measure => simp [intOf]; omega
        · obtain rfl : k = n := by omega
          have ho6 : OwR RJ 4 wr w2.heap.size 28 A5 n5 c5 (wantS L (s + 1)) := by
            rw [HWS.out]
            rw [HNL.out, List.take_length] at ho5
            exact ho5
          go_wp2_with fail
          go_roundw
          case rel => exact ⟨s + 1, A5, n5, c5, by omega, by omega, rfl, by go_num, hbx, ho6, by
            have : (s - 1) * 11 + 11 = s * 11 := by
              obtain ⟨q, rfl⟩ : ∃ q, s = q + 1 := ⟨s - 1, by omega⟩
              simp; omega
            simp; omega⟩
          case measure => simp [intOf]; omega
    · have hs3e : s = 3 := by omega
      rw [hs3e] at ho4 hn4
      have hsi : (2 : Int) < (s : Int) := by omega
      clear hs3e hs
      obtain ⟨w3, rfl⟩ : ∃ q, q = wr := ⟨_, rfl⟩
      have k33 := heap_call hbw k3
      have hb03 := below_call hb2 hbw
      have hL3 := RdJ.below hL2 hbw
      have hA4 : Hid (∀ g, A4.map (·.block) = some g → g < w3.heap.size) := Lib.hid fun g hg => (OwJ.lt ho4 g hg).2
      have hR4 := ho4.rd
      rw [HWO.out] at hR4
      have hz3 := hb03.size
      have hz23 := hbw.size
      have hXL : Hid (L.length ≤ 11) := Lib.hid hl1
      clear HWO ho4 hL2 k3 hbw HO1 hLj hl1 hl2
      go_wp2_with fail
      go_loopw [5, 8] (fun v5 v8 wx => ∃ (X G : List Jb) (Ax : Option Addr) (nx cx : Nat) (Bx : Option Addr) (dx : Nat) (A5 : Option Addr) (c5 i : Nat), v5 = .slice A5 i c5 ∧ v8 = .int .i64 i ∧ wx.heap[g3]? = some (.cells #[.slice Ax nx cx, .slice Bx 0 dx] 24 (0, 0)) ∧ RdR RJ 4 wx Ax nx cx X ∧ RdR RJ 4 wx Bx 0 dx [] ∧ OwR RJ 4 wx w3.heap.size 28 A5 i c5 G ∧ RdR RJ 4 wx A4 n4 c4 (ordr L) ∧ Below w.heap.size w wx ∧ Hid (G ++ ordr X = ordr L) ∧ i + X.length ≤ 11 ∧ w3.heap.size ≤ wx.heap.size) (fun _ v8 _ => 30 - (intOf v8).toNat)
      case atStart => exact ⟨L, [], A, n, c, none, 0, none, 0, 0, rfl, rfl, k33, hL3, RdR.nil _ _ _, OwR.nil _ _ _ _ _, hR4, hb03, Lib.hid (List.nil_append _), by have := hXL.out; omega, Nat.le_refl _⟩
      case round =>
        obtain ⟨X, G, Ax, nx, cx, Bx, dx, A5, c5, i, rfl, rfl, kq, hX, hB, hG, hW, hb, HG, hiX, hzw⟩ := hrel
        have hi30 : (i : Int) < 30 := by omega
        have hnx : nx ≤ 11 := by have := hX.len; omega
        have hgl : g3 < wr.heap.size := Blk.lt kq
        have HT := takeo_any Ax nx cx X Bx 0 dx [] x wr hX hB (HX.out wr hb) (by omega) (by omega)
        have HNX := Lib.hid hX.len
        have kcq := Blk.cell kq
        clear k33 hb03 hL3 hR4 HNL
        cases htk : tkAt X [] with
        | none =>
          have hX0 := take_none2 htk
          obtain ⟨-, -, e3, e4⟩ := tk_none htk
          rw [e3, e4] at HT
          have hn0 : nx = 0 := by rw [HNX.out, hX0]; rfl
          have hGL : G = ordr L := by have := HG.out; rw [hX0] at this; simpa [ordr] using this
          subst hn0 hX0
          clear e3 e4 htk hX HG hiX HNX
          unfold RTkO at HT
          have hv : jb0.val = .agg #[.int .i64 0, .string ⟨#[]⟩, .int .i64 0, .string ⟨#[]⟩] := rfl
          rw [hv] at HT
          go_wp2_with fail
          go_at_call 18
          refine HT.mono ?_
          rintro e w4 ⟨A6, n6, c6, B6, m6, d6, rfl, -, -, hb4⟩
          have hal : Below w4.heap.size w4 ((w4.alloc (.cells #[.slice A6 n6 c6, .slice B6 m6 d6] 24)).alloc (.cells #[.int .i64 0, .string ⟨#[]⟩, .int .i64 0, .string ⟨#[]⟩] 28)) := ((Below.refl _ _).alloc (Nat.le_refl _) _).alloc (by rw [size_alloc_]; omega) _
          have hb45 := below_call hb4 hal
          have kq5 := heap_call hb45 kq
          have hG5 := (hG.call RJ.stay hb45).rd
          have hW5 := RdJ.below hW hb45
          have hb05 := below_call hb hb45
          clear HT hb4 hal hb45 kq hG hW hb kcq
          go_wp2_with fail
          generalize (w4.alloc (.cells #[.slice A6 n6 c6, .slice B6 m6 d6] 24)).alloc (.cells #[.int .i64 0, .string ⟨#[]⟩, .int .i64 0, .string ⟨#[]⟩] 28) = w5 at kq5 hG5 hW5 hb05 ⊢
          go_at_call 11
          refine (HAW.out _ hb05).mono ?_
          rintro e w6 ⟨rfl, hb6⟩
          have kq6 := heap_call hb6 kq5
          have hG6 := RdJ.below hG5 hb6
          have hW6 := RdJ.below hW5 hb6
          have hb06 := below_call hb05 hb6
          clear kq5 hG5 hW5 hb05 hb6
          go_wp2_with fail
          have HSM := same_job A4 n4 c4 (ordr L) A5 i c5 G w6 hW6 hG6
          rw [hGL, decide_eq_true rfl] at HSM
          go_at_call 24
          refine HSM.mono ?_
          rintro e w7 ⟨rfl, hb7⟩
          have kq7 := heap_call hb7 kq6
          have hb07 := below_call hb06 hb7
          have kc7 := Blk.cell kq7
          clear kq6 hG6 hW6 hb06 hb7 HSM
          go_wp2_with fail
          go_at_call 25
          refine (empty_any Ax Bx 0 cx 0 dx w7).mono ?_
          rintro e w8 ⟨rfl, hb8⟩
          go_wp2_with fail
          go_ret
          exact ⟨by rfl, below_call hb07 hb8⟩
        | some q =>
          have hor := ordr_take htk
          have hql := tkAt_lt htk
          obtain ⟨e1, e2, e3, e4⟩ := tk_some htk
          rw [e1, e2, e3, e4, List.nil_append] at HT
          have hlE : (X.eraseIdx q).length + 1 = X.length := by rw [List.length_eraseIdx_of_lt hql]; omega
          have HDN := done_one (X.getD q jb0)
          generalize X.getD q jb0 = j at *
          generalize X.eraseIdx q = X' at *
          clear e1 e2 e3 e4 htk hql
          have HG2 : Hid ((G ++ [j]) ++ ordr X' = ordr L) := Lib.hid (by rw [← HG.out, hor, List.append_assoc]; rfl)
          clear HG hor
          obtain ⟨st, us, sp, nm⟩ := j
          unfold RTkO Jb.val at HT
          simp only [] at HT
          go_wp2_with fail
          go_at_call 18
          refine HT.mono ?_
          rintro e w4 ⟨A6, n6, c6, B6, m6, d6, rfl, hX6, hJ6, hb4⟩
          have hn6 := hX6.len
          have hm6 : m6 = 1 := hJ6.len
          subst hm6
          have hn6b : n6 ≤ 11 := by omega
          clear hn6
          have kq4 := heap_call hb4 kq
          have hG4 := hG.call RJ.stay hb4
          have hW4 := RdJ.below hW hb4
          have hb04 := below_call hb hb4
          have hne6 : Ne2 A5 A6 := fun g g1 g2 => by have := (OwJ.lt hG g g1).2; have := (OwJ.lt hX6 g g2).1; omega
          have hneB : Ne2 A5 B6 := fun g g1 g2 => by have := (OwJ.lt hG g g1).2; have := (OwJ.lt hJ6 g g2).1; omega
          have hz4 := hb4.size
          clear HT hb4 kq hG hW hb kcq hX hB
          have hal : Below w4.heap.size w4 ((w4.alloc (.cells #[.slice A6 n6 c6, .slice B6 1 d6] 24)).alloc (.cells #[.int .i64 st, .string us, .int .i64 sp, .string nm] 28)) := ((Below.refl _ _).alloc (Nat.le_refl _) _).alloc (by rw [size_alloc_]; omega) _
          have hal2 : Below w4.heap.size w4 (((w4.alloc (.cells #[.slice A6 n6 c6, .slice B6 1 d6] 24)).alloc (.cells #[.int .i64 st, .string us, .int .i64 sp, .string nm] 28)).alloc (.cells #[.int .i64 st, .string us, .int .i64 sp, .string nm] 28)) := hal.alloc (by rw [size_alloc_, size_alloc_]; omega) _
          have hneA : A5.map (·.block) ≠ some w4.heap.size := fun e => by have := (OwJ.lt hG4 _ e).2; omega
          have hneA1 : A5.map (·.block) ≠ some (w4.heap.size + 1) := fun e => by have := (OwJ.lt hG4 _ e).2; omega
          have kt9 : (((w4.alloc (.cells #[.slice A6 n6 c6, .slice B6 1 d6] 24)).alloc (.cells #[.int .i64 st, .string us, .int .i64 sp, .string nm] 28)).alloc (.cells #[.int .i64 st, .string us, .int .i64 sp, .string nm] 28)).heap[w4.heap.size]? = some (.cells #[.slice A6 n6 c6, .slice B6 1 d6] 24 (0, 0)) := heap_old (heap_old (heap_new rfl))
          have kt10 : (((w4.alloc (.cells #[.slice A6 n6 c6, .slice B6 1 d6] 24)).alloc (.cells #[.int .i64 st, .string us, .int .i64 sp, .string nm] 28)).alloc (.cells #[.int .i64 st, .string us, .int .i64 sp, .string nm] 28)).heap[w4.heap.size + 1]? = some (.cells #[.int .i64 st, .string us, .int .i64 sp, .string nm] 28 (0, 0)) := heap_old (heap_new (by rw [size_alloc_]))
          have kqa := heap_call hal2 kq4
          have hGa := hG4.call RJ.stay hal2
          have hXa := hX6.call RJ.stay hal2
          have hJa := hJ6.call RJ.stay hal2
          have hWa := RdJ.below hW4 hal2
          have hba := below_call hb04 hal2
          have hlitf := Lib.hid (fun W => RdJ.lit (w := W) (t := 0) ⟨st, us, sp, nm⟩)
          have hib : i ≤ 11 := by omega
          have hbs : w3.heap.size ≤ (((w4.alloc (.cells #[.slice A6 n6 c6, .slice B6 1 d6] 24)).alloc (.cells #[.int .i64 st, .string us, .int .i64 sp, .string nm] 28)).alloc (.cells #[.int .i64 st, .string us, .int .i64 sp, .string nm] 28)).heap.size := Nat.le_trans hzw (Nat.le_trans hz4 hal2.size)
          go_wp2_with (first
            | (at_builtin; go_must (refine wpList_append_r _ rfl (.tmp 54) (.tmp 56) 22 rfl 4 48 w3.heap.size 28 i0 _ RJ.stay (by decide) Tryd.underlying22 hi0 hz0 hz1 hz2 rfl (by omega) A5 i c5 G rfl hGa _ 1 1 rfl [⟨st, us, sp, nm⟩] _ (Reads.litAt (cs := #[.int .i64 st, .string us, .int .i64 sp, .string nm]) (by rw [size_alloc_, size_alloc_]) rfl) (hlitf.out _) rfl ?_ ?_ ?_ ?_ ?_; (focus (simp [Value.oneCell'])); (focus (unfold maxLen; omega)); (focus omega); (focus (exact hbs)); intro A7 c7 w7 ho7 hg7; (have kt97 := OwG.heap hg7 hneA kt9); (have kt107 := OwG.heap hg7 hneA1 kt10); (have kc9 := Blk.cell kt97); (have kc10 := Blk.cell kt107))))
          have kq7 : w7.heap[g3]? = _ := (hg7.b.block g3 (by omega)).trans kqa
          have hX7 := (OwJ.grownB hXa hg7 hne6).rd
          have hJ7 := (OwJ.grownB hJa hg7 hneB).rd
          have hW7 : RdR RJ 4 w7 A4 n4 c4 (ordr L) := RdJ.kept hWa hg7.g.size fun b off e h0 => hg7.b.block b (hA4.out b (by rw [e]; rfl))
          have hb07 : Below w.heap.size w w7 := hba.trans (hg7.b.mono hz3)
          have hz7 := hg7.g.size
          have HD := done_any A6 n6 c6 X' B6 1 d6 [⟨st, us, sp, nm⟩] ⟨st, us, sp, nm⟩ w7 hX7 hJ7 (by omega) (by omega)
          rw [HDN] at HD
          unfold Jb.val at HD
          go_at_call 20
          refine HD.mono ?_
          rintro e w8 ⟨A8, n8, c8, B8, m8, d8, rfl, hX8, hB8, hb8⟩
          have hm8 : m8 = 0 := hB8.len
          subst hm8
          have kq8 := heap_call hb8 kq7
          have hW8 := RdJ.below hW7 hb8
          have hG8 := ho7.call RJ.stay hb8
          have hb08 := below_call hb07 hb8
          have kc8 := Blk.cell kq8
          have kf8 := Blk.frozen kq8
          have hz8 := hb8.size
          clear HD kq7 hX7 hJ7 hW7 hb07 hb8 ho7 hg7 hal hal2 kt9 kt10 kqa hGa hXa hJa hWa hba kt97 kt107 kc9 kc10 hG4 hX6 hJ6 hW4 hb04 kq4
          go_wp2_with fail
          go_roundw
          case rel => exact ⟨X', G ++ [⟨st, us, sp, nm⟩], A8, n8, c8, B8, d8, A7, c7, i + 1, rfl, by go_num, heap_set_near _ _ _ _ _ _ (heap_set_near _ _ _ _ _ _ kq8), RdJ.setQ (RdJ.setQ hX8 kq8 _ _) (heap_set_near _ _ _ _ _ _ kq8) _ _, RdJ.setQ (RdJ.setQ hB8 kq8 _ _) (heap_set_near _ _ _ _ _ _ kq8) _ _, (hG8.setX (by show g3 < _; omega) _).setX (by show g3 < _; omega) _, RdJ.setQ (RdJ.setQ hW8 kq8 _ _) (heap_set_near _ _ _ _ _ _ kq8) _ _, (hb08.setCell (by show w.heap.size ≤ g3; omega) _).setCell (by show w.heap.size ≤ g3; omega) _, HG2, by omega, by simp only [size_set]; omega⟩
          case measure => simp [intOf]; omega
end Go.Proofs.YtobgnncdldfkkaaDoor
