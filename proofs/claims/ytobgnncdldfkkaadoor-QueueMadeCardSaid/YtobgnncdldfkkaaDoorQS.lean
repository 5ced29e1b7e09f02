/- The walk of trcref38.Valid. -/
import Derived.Test.YtobgnncdldfkkaaDoorQV
import Derived.Test.YtobgnncdldfkkaaDoorQL
namespace Go.Proofs.YtobgnncdldfkkaaDoor
open Go.RowKit
set_option linter.unusedSimpArgs false
set_option linter.unusedVariables false

theorem qv_bad {L M : List Jb} {k : Nat} (hk : k < (L ++ M).length) (h : jv ((L ++ M).getD k jb0) = false) : qv L M = false := by
  unfold qv
  have h1 : (L ++ M).all jv = false := by
    rw [← Bool.not_eq_true, List.all_eq_true]
    intro hh
    have hm : (L ++ M).getD k jb0 ∈ L ++ M := by simp only [List.getD, List.getElem?_eq_getElem hk, Option.getD_some]; exact List.getElem_mem hk
    rw [hh _ hm] at h
    cases h
  rw [List.all_append] at h1
  rw [h1, Bool.false_and]
theorem qv_good {L M : List Jb} (h : ∀ k, k < (L ++ M).length → jv ((L ++ M).getD k jb0) = true) : qv L M = decide L.Nodup := by
  have h1 : (L ++ M).all jv = true := by
    rw [List.all_eq_true]
    intro x hx
    obtain ⟨k, hk, e⟩ := List.mem_iff_getElem.1 hx
    have := h k hk
    simp only [List.getD, List.getElem?_eq_getElem hk, Option.getD_some] at this
    rwa [e] at this
  rw [List.all_append] at h1
  unfold qv
  rw [h1, Bool.true_and]
theorem nodup_hit {L : List Jb} {i k : Nat} (hk : k < i) (hi : i < L.length) (h : L.getD k jb0 = L.getD i jb0) : decide L.Nodup = false := by
  rw [decide_eq_false_iff_not]
  intro hn
  have hk2 : k < L.length := by omega
  simp only [List.getD, List.getElem?_eq_getElem hk2, List.getElem?_eq_getElem hi, Option.getD_some] at h
  have := (List.getElem_inj hn).1 h
  omega
theorem nodup_miss {L : List Jb} (h : ∀ i k, i < L.length → k < i → L.getD k jb0 ≠ L.getD i jb0) : decide L.Nodup = true := by
  rw [decide_eq_true_iff]
  refine List.pairwise_iff_getElem.2 fun i j hi hj hij e => ?_
  have := h j i hj hij
  simp only [List.getD, List.getElem?_eq_getElem hi, List.getElem?_eq_getElem hj, Option.getD_some] at this
  exact this e
theorem jv_eq (st : Int) (us : ByteArray) (sp : Int) (nm : ByteArray) : jv ⟨st, us, sp, nm⟩ = (((st == 1 && isE us) || st == 2) && tv sp nm) := rfl

set_option maxRecDepth 100000 in
set_option maxHeartbeats 8000000 in
theorem rvalid_any (A : Option Addr) (n c : Nat) (L : List Jb) (B : Option Addr) (m d : Nat) (M : List Jb) (w : World) (h : RdR RJ 4 w A n c L) (h2 : RdR RJ 4 w B m d M) (hn : n ≤ 50000) (hm : m ≤ 50000) :
    Calls Tryd.prog 31 #[.agg #[.slice A n c, .slice B m d]] w fun e w' => e = .returned (.bool (qv L M)) ∧ Below w.heap.size w w' := by
  obtain ⟨i0, hi0, hz0, hz1, hz2⟩ := info_parts job_info2
  have HO := Lib.hid fun (h0 : 0 < n) => RdJ.opened h h0
  have HNL := Lib.hid h.len
  have HNM := Lib.hid h2.len
  have HRA := Lib.hid h
  have HRB := Lib.hid h2
  have HV1 := Lib.hid (fun (W : World) (hW : Below w.heap.size w W) => RdJ.vals (RdJ.below h hW))
  clear h h2
  go_enter Tryd.func31, Tryd.ntmps31
  go_wp2_with fail
  have kh1 : (w.alloc (.cells #[.slice A n c, .slice B m d] 24)).heap[w.heap.size]? = some (.cells #[.slice A n c, .slice B m d] 24 (0, 0)) := heap_new rfl
  have hb1 : Below w.heap.size w (w.alloc (.cells #[.slice A n c, .slice B m d] 24)) := (Below.refl _ _).alloc (Nat.le_refl _) _
  generalize w.alloc (.cells #[.slice A n c, .slice B m d] 24) = w1 at kh1 hb1 ⊢
  have HK : Hid (∀ W : World, Bel w1.heap.size w1 W → W.cell? ⟨w.heap.size, 0, none⟩ = some (.slice A n c) ∧ W.cell? ⟨w.heap.size, 1, none⟩ = some (.slice B m d)) := Lib.hid fun W hW => by
    have hh := heap_call hW.2 kh1
    exact ⟨Blk.cell hh 0, Blk.cell hh 1⟩
  have hz1w := Blk.lt kh1
  go_region_held3 (fun W => W.cell? ⟨w.heap.size, 0, none⟩ = some (.slice A n c) ∧ W.cell? ⟨w.heap.size, 1, none⟩ = some (.slice B m d))
    ((refine HK.out _ ?_; (focus (repeat' first | (with_reducible refine bel_refl ?_) | with_reducible assumption | with_reducible refine bel_drew ?_ | with_reducible refine bel_drewN _ ?_ | with_reducible refine bel_alloc _ ?_ | with_reducible refine bel_set ?_ _ ?_ | (with_reducible apply bel_call; with_reducible assumption) | (with_reducible apply bel_owg; with_reducible assumption; (focus omega)) | with_reducible exact Nat.le_refl _ | omega | (simp; done) | (simp; omega))); done))
    (first
      | (refine step_append_r _ rfl (.tmp 10) (.tmp 12) 22 rfl 4 48 w1.heap.size 28 i0 _ RJ.stay (by decide) Tryd.underlying22 hi0 hz0 hz1 hz2 rfl (by omega) A3 n c3 L rfl ho3 B m d rfl M (jcells M) ?_ (fits_jcells _ _) HNM.out (jcells_one _) ?_ ?_ ?_ ?_; (focus (refine RdJ.vals (RdJ.below HRB.out ?_); (refine bel_out ?_; (focus (repeat' first | (with_reducible refine bel_refl ?_) | with_reducible assumption | with_reducible refine bel_drew ?_ | with_reducible refine bel_drewN _ ?_ | with_reducible refine bel_alloc _ ?_ | with_reducible refine bel_set ?_ _ ?_ | (with_reducible apply bel_call; with_reducible assumption) | (with_reducible apply bel_owg; with_reducible assumption; (focus omega)) | with_reducible exact Nat.le_refl _ | omega | (simp; done) | (simp; omega)))))); (focus (unfold maxLen; omega)); (focus omega); (focus (exact hb3.size)); intro A4 c4 w4 ho4 hg4)
      | (refine step_append_r _ rfl (.const (.slice none 0 0)) (.tmp 9) 22 rfl 4 48 w1.heap.size 28 i0 _ RJ.stay (by decide) Tryd.underlying22 hi0 hz0 hz1 hz2 rfl (by omega) none 0 0 [] rfl (OwR.nil _ _ _ _ _) A n c rfl L (jcells L) ?_ (fits_jcells _ _) HNL.out (jcells_one _) ?_ ?_ ?_ ?_; (focus (refine HV1.out _ ?_; (refine bel_out ?_; (focus (repeat' first | (with_reducible refine bel_refl ?_) | with_reducible assumption | with_reducible refine bel_drew ?_ | with_reducible refine bel_drewN _ ?_ | with_reducible refine bel_alloc _ ?_ | with_reducible refine bel_set ?_ _ ?_ | (with_reducible apply bel_call; with_reducible assumption) | (with_reducible apply bel_owg; with_reducible assumption; (focus omega)) | with_reducible exact Nat.le_refl _ | omega | (simp; done) | (simp; omega)))))); (focus (unfold maxLen; omega)); (focus omega); (focus (rw [size_drew]; exact Nat.le_refl _)); intro A3 c3 w3 ho3 hg3; rw [Nat.zero_add, List.nil_append] at ho3; rw [Nat.zero_add]; (have hb3 := hg3.new)))
  have kh4 : w4.heap[w.heap.size]? = some (.cells #[.slice A n c, .slice B m d] 24 (0, 0)) := (hg4.b.block _ (by omega)).trans (heap_call hb3 kh1)
  have hb04 : Below w.heap.size w w4 := (hb1.trans ((hg3.drew_left.new).mono (by omega))).trans (hg4.b.mono (by omega))
  have hbz4 := hb04.size
  have HOZ := Lib.hid fun (h0 : 0 < n + m) => RdJ.opened ho4.rd h0
  have HZL := Lib.hid ho4.len
  have HQ1 := Lib.hid (fun k (hk : k < (L ++ M).length) h => qv_bad (L := L) (M := M) hk h)
  have HQ2 := Lib.hid (fun h => qv_good (L := L) (M := M) h)
  clear ho4 hg4 ho3 hg3 hb3 kh1 hb1 HK HV1 hz1w
  obtain ⟨N, hN, hNb⟩ : ∃ N, n + m = N ∧ N ≤ 100000 := ⟨n + m, rfl, by omega⟩
  rw [hN] at HOZ HZL
  try rw [hN]
  clear hN
  generalize L ++ M = Z at *
  go_wp2_with fail
  go_loopw [4] (fun v wr => ∃ k : Nat, k ≤ N ∧ v = .int .i64 k ∧ Below w4.heap.size w4 wr ∧ Hid (∀ j, j < k → jv (Z.getD j jb0) = true)) (fun v _ => N - (intOf v).toNat)
  case atStart => exact ⟨0, Nat.zero_le _, rfl, Below.refl _ _, Lib.hid fun j h => by omega⟩
  case round =>
    obtain ⟨k, hk, rfl, hbw, HB⟩ := hrel
    by_cases hlt : k < N
    · obtain ⟨b, off, rfl, hb, hc⟩ := HOZ.out (by omega)
      obtain ⟨x1, x2, x3, x4⟩ := hc k hlt
      have c1 := (hbw.cell (p := ⟨b, off + k * 4, none⟩) hb).trans x1
      have c2 := (hbw.cell (p := ⟨b, off + k * 4 + 1, none⟩) hb).trans x2
      have c3 := (hbw.cell (p := ⟨b, off + k * 4 + 2, none⟩) hb).trans x3
      have c4 := (hbw.cell (p := ⟨b, off + k * 4 + 3, none⟩) hb).trans x4
      clear hc x1 x2 x3 x4 HOZ
      have z0 : (0 : Int) ≤ (k : Int) := by omega
      have z1 : (k : Int) < (N : Int) := by omega
      have HB1 := Lib.hid (HQ1.out k (by rw [← HZL.out]; exact hlt))
      have HB2 : Hid (jv (Z.getD k jb0) = true → ∀ j, j < k + 1 → jv (Z.getD j jb0) = true) := Lib.hid fun h j hj => by
        rcases Nat.lt_or_ge j k with h1 | h1
        · exact HB.out j h1
        · obtain rfl : j = k := by omega
          exact h
      generalize Z.getD k jb0 = a at *
      obtain ⟨st, us, sp, nm⟩ := a
      rw [jv_eq] at HB1 HB2
      have HT := Lib.hid fun (W : World) => rtitle_any sp nm W
      unfold isE at HB1 HB2
      simp only [] at c1 c2 c3 c4
      generalize tv sp nm = t at *
      clear HB HQ1
      have hbf : ∀ W, Below w4.heap.size w4 W → Below w.heap.size w W := fun W hW => below_call hb04 hW
      by_cases h1 : st = 1
      · subst h1
        cases he : us.toList.isEmpty with
        | true =>
          have he2 : us.toList = [] := by simpa using he
          rw [he] at HB1 HB2
          cases t with
          | true =>
            have HC := Lib.hid (HB2.out rfl)
            clear HB1 HB2 he
            go_wp2_with (go_at_call 44; refine (HT.out _).mono ?_; rintro e w5 ⟨rfl, hb5⟩; obtain ⟨kc5, kf5, kz5, kh5⟩ := blk_cells hb5 (g := wr.heap.size) (t := 28) (cs := #[.int .i64 1, .string us, .int .i64 sp, .string nm]) (by (focus (repeat' first | with_reducible assumption | (with_reducible refine heap_drew ?_) | (with_reducible refine heap_drewN ?_) | (with_reducible refine heap_new ?_; focus (first | rfl | omega | (simp; done))) | (with_reducible refine heap_old ?_) | (with_reducible apply heap_near') | ((with_reducible show Array.setIfInBounds _ _ _ = _); rfl) | (with_reducible refine heap_far ?_ ?_; focus (first | omega | (simp; omega) | (simp; done))) | (with_reducible apply heap_grown; with_reducible assumption; (focus (first | omega | (simp; omega)))) | (with_reducible apply heap_call; with_reducible assumption)))))
            go_roundw
            case rel => exact ⟨k + 1, by omega, by go_num, by (refine bel_out ?_; (focus (repeat' first | (with_reducible refine bel_refl ?_) | with_reducible assumption | with_reducible refine bel_drew ?_ | with_reducible refine bel_drewN _ ?_ | with_reducible refine bel_alloc _ ?_ | with_reducible refine bel_set ?_ _ ?_ | (with_reducible apply bel_call; with_reducible assumption) | (with_reducible apply bel_owg; with_reducible assumption; (focus omega)) | with_reducible exact Nat.le_refl _ | omega | (simp; done) | (simp; omega)))), HC⟩
            case measure => simp [intOf]; omega
          | false =>
            have HC := Lib.hid (HB1.out rfl)
            clear HB1 HB2 he
            go_wp2_with (go_at_call 44; refine (HT.out _).mono ?_; rintro e w5 ⟨rfl, hb5⟩; obtain ⟨kc5, kf5, kz5, kh5⟩ := blk_cells hb5 (g := wr.heap.size) (t := 28) (cs := #[.int .i64 1, .string us, .int .i64 sp, .string nm]) (by (focus (repeat' first | with_reducible assumption | (with_reducible refine heap_drew ?_) | (with_reducible refine heap_drewN ?_) | (with_reducible refine heap_new ?_; focus (first | rfl | omega | (simp; done))) | (with_reducible refine heap_old ?_) | (with_reducible apply heap_near') | ((with_reducible show Array.setIfInBounds _ _ _ = _); rfl) | (with_reducible refine heap_far ?_ ?_; focus (first | omega | (simp; omega) | (simp; done))) | (with_reducible apply heap_grown; with_reducible assumption; (focus (first | omega | (simp; omega)))) | (with_reducible apply heap_call; with_reducible assumption)))))
            go_ret
            exact ⟨by rw [HC.out]; rfl, hbf _ (by (refine bel_out ?_; (focus (repeat' first | (with_reducible refine bel_refl ?_) | with_reducible assumption | with_reducible refine bel_drew ?_ | with_reducible refine bel_drewN _ ?_ | with_reducible refine bel_alloc _ ?_ | with_reducible refine bel_set ?_ _ ?_ | (with_reducible apply bel_call; with_reducible assumption) | (with_reducible apply bel_owg; with_reducible assumption; (focus omega)) | with_reducible exact Nat.le_refl _ | omega | (simp; done) | (simp; omega)))))⟩
        | false =>
          have he2 : ¬ us.toList = [] := by simpa using he
          have he3 : (us.toList != ([] : List UInt8)) = true := by simpa using he
          have he4 : (us.toList == ([] : List UInt8)) = false := by simpa using he
          rw [he] at HB1
          have HC := Lib.hid (HB1.out rfl)
          clear HB1 HB2
          cases t with
          | true =>
            go_wp2_with (go_at_call 44; refine (HT.out _).mono ?_; rintro e w5 ⟨rfl, hb5⟩; obtain ⟨kc5, kf5, kz5, kh5⟩ := blk_cells hb5 (g := wr.heap.size) (t := 28) (cs := #[.int .i64 1, .string us, .int .i64 sp, .string nm]) (by (focus (repeat' first | with_reducible assumption | (with_reducible refine heap_drew ?_) | (with_reducible refine heap_drewN ?_) | (with_reducible refine heap_new ?_; focus (first | rfl | omega | (simp; done))) | (with_reducible refine heap_old ?_) | (with_reducible apply heap_near') | ((with_reducible show Array.setIfInBounds _ _ _ = _); rfl) | (with_reducible refine heap_far ?_ ?_; focus (first | omega | (simp; omega) | (simp; done))) | (with_reducible apply heap_grown; with_reducible assumption; (focus (first | omega | (simp; omega)))) | (with_reducible apply heap_call; with_reducible assumption)))))
            go_ret
            exact ⟨by rw [HC.out]; rfl, hbf _ (by (refine bel_out ?_; (focus (repeat' first | (with_reducible refine bel_refl ?_) | with_reducible assumption | with_reducible refine bel_drew ?_ | with_reducible refine bel_drewN _ ?_ | with_reducible refine bel_alloc _ ?_ | with_reducible refine bel_set ?_ _ ?_ | (with_reducible apply bel_call; with_reducible assumption) | (with_reducible apply bel_owg; with_reducible assumption; (focus omega)) | with_reducible exact Nat.le_refl _ | omega | (simp; done) | (simp; omega)))))⟩
          | false =>
            go_wp2_with (go_at_call 44; refine (HT.out _).mono ?_; rintro e w5 ⟨rfl, hb5⟩; obtain ⟨kc5, kf5, kz5, kh5⟩ := blk_cells hb5 (g := wr.heap.size) (t := 28) (cs := #[.int .i64 1, .string us, .int .i64 sp, .string nm]) (by (focus (repeat' first | with_reducible assumption | (with_reducible refine heap_drew ?_) | (with_reducible refine heap_drewN ?_) | (with_reducible refine heap_new ?_; focus (first | rfl | omega | (simp; done))) | (with_reducible refine heap_old ?_) | (with_reducible apply heap_near') | ((with_reducible show Array.setIfInBounds _ _ _ = _); rfl) | (with_reducible refine heap_far ?_ ?_; focus (first | omega | (simp; omega) | (simp; done))) | (with_reducible apply heap_grown; with_reducible assumption; (focus (first | omega | (simp; omega)))) | (with_reducible apply heap_call; with_reducible assumption)))))
            go_ret
            exact ⟨by rw [HC.out]; rfl, hbf _ (by (refine bel_out ?_; (focus (repeat' first | (with_reducible refine bel_refl ?_) | with_reducible assumption | with_reducible refine bel_drew ?_ | with_reducible refine bel_drewN _ ?_ | with_reducible refine bel_alloc _ ?_ | with_reducible refine bel_set ?_ _ ?_ | (with_reducible apply bel_call; with_reducible assumption) | (with_reducible apply bel_owg; with_reducible assumption; (focus omega)) | with_reducible exact Nat.le_refl _ | omega | (simp; done) | (simp; omega)))))⟩
      · have q1 : (st == 1) = false := by simpa using h1
        by_cases h2 : st = 2
        · subst h2
          cases t with
          | true =>
            have HC := Lib.hid (HB2.out rfl)
            clear HB1 HB2
            go_wp2_with (go_at_call 44; refine (HT.out _).mono ?_; rintro e w5 ⟨rfl, hb5⟩; obtain ⟨kc5, kf5, kz5, kh5⟩ := blk_cells hb5 (g := wr.heap.size) (t := 28) (cs := #[.int .i64 2, .string us, .int .i64 sp, .string nm]) (by (focus (repeat' first | with_reducible assumption | (with_reducible refine heap_drew ?_) | (with_reducible refine heap_drewN ?_) | (with_reducible refine heap_new ?_; focus (first | rfl | omega | (simp; done))) | (with_reducible refine heap_old ?_) | (with_reducible apply heap_near') | ((with_reducible show Array.setIfInBounds _ _ _ = _); rfl) | (with_reducible refine heap_far ?_ ?_; focus (first | omega | (simp; omega) | (simp; done))) | (with_reducible apply heap_grown; with_reducible assumption; (focus (first | omega | (simp; omega)))) | (with_reducible apply heap_call; with_reducible assumption)))))
            go_roundw
            case rel => exact ⟨k + 1, by omega, by go_num, by (refine bel_out ?_; (focus (repeat' first | (with_reducible refine bel_refl ?_) | with_reducible assumption | with_reducible refine bel_drew ?_ | with_reducible refine bel_drewN _ ?_ | with_reducible refine bel_alloc _ ?_ | with_reducible refine bel_set ?_ _ ?_ | (with_reducible apply bel_call; with_reducible assumption) | (with_reducible apply bel_owg; with_reducible assumption; (focus omega)) | with_reducible exact Nat.le_refl _ | omega | (simp; done) | (simp; omega)))), HC⟩
            case measure => simp [intOf]; omega
          | false =>
            have HC := Lib.hid (HB1.out rfl)
            clear HB1 HB2
            go_wp2_with (go_at_call 44; refine (HT.out _).mono ?_; rintro e w5 ⟨rfl, hb5⟩; obtain ⟨kc5, kf5, kz5, kh5⟩ := blk_cells hb5 (g := wr.heap.size) (t := 28) (cs := #[.int .i64 2, .string us, .int .i64 sp, .string nm]) (by (focus (repeat' first | with_reducible assumption | (with_reducible refine heap_drew ?_) | (with_reducible refine heap_drewN ?_) | (with_reducible refine heap_new ?_; focus (first | rfl | omega | (simp; done))) | (with_reducible refine heap_old ?_) | (with_reducible apply heap_near') | ((with_reducible show Array.setIfInBounds _ _ _ = _); rfl) | (with_reducible refine heap_far ?_ ?_; focus (first | omega | (simp; omega) | (simp; done))) | (with_reducible apply heap_grown; with_reducible assumption; (focus (first | omega | (simp; omega)))) | (with_reducible apply heap_call; with_reducible assumption)))))
            go_ret
            exact ⟨by rw [HC.out]; rfl, hbf _ (by (refine bel_out ?_; (focus (repeat' first | (with_reducible refine bel_refl ?_) | with_reducible assumption | with_reducible refine bel_drew ?_ | with_reducible refine bel_drewN _ ?_ | with_reducible refine bel_alloc _ ?_ | with_reducible refine bel_set ?_ _ ?_ | (with_reducible apply bel_call; with_reducible assumption) | (with_reducible apply bel_owg; with_reducible assumption; (focus omega)) | with_reducible exact Nat.le_refl _ | omega | (simp; done) | (simp; omega)))))⟩
        · have q2 : (st == 2) = false := by simpa using h2
          have n1 : (st != 1) = true := by simpa using h1
          have n2 : (st != 2) = true := by simpa using h2
          rw [q1, q2] at HB1
          have HC := Lib.hid (HB1.out rfl)
          clear HB1 HB2
          go_wp2_with fail
          go_ret
          exact ⟨by rw [HC.out]; rfl, hbf _ (by (refine bel_out ?_; (focus (repeat' first | (with_reducible refine bel_refl ?_) | with_reducible assumption | with_reducible refine bel_drew ?_ | with_reducible refine bel_drewN _ ?_ | with_reducible refine bel_alloc _ ?_ | with_reducible refine bel_set ?_ _ ?_ | (with_reducible apply bel_call; with_reducible assumption) | (with_reducible apply bel_owg; with_reducible assumption; (focus omega)) | with_reducible exact Nat.le_refl _ | omega | (simp; done) | (simp; omega)))))⟩
    · obtain rfl : k = N := by omega
      have HQ : Hid (qv L M = decide L.Nodup) := Lib.hid (HQ2.out (by rw [← HZL.out]; exact HB.out))
      obtain ⟨kcq, kfq, kzq, khq⟩ := blk_cells hbw (g := w.heap.size) (t := 24) (cs := #[.slice A n c, .slice B m d]) (by (focus (repeat' first | with_reducible assumption | (with_reducible refine heap_drew ?_) | (with_reducible refine heap_drewN ?_) | (with_reducible refine heap_new ?_; focus (first | rfl | omega | (simp; done))) | (with_reducible refine heap_old ?_) | (with_reducible apply heap_near') | ((with_reducible show Array.setIfInBounds _ _ _ = _); rfl) | (with_reducible refine heap_far ?_ ?_; focus (first | omega | (simp; omega) | (simp; done))) | (with_reducible apply heap_grown; with_reducible assumption; (focus (first | omega | (simp; omega)))) | (with_reducible apply heap_call; with_reducible assumption))))
      have hb05 : Below w.heap.size w wr := below_call hb04 hbw
      have HN1 := Lib.hid (fun i k (hk : k < i) (hi : i < L.length) h => nodup_hit (L := L) hk hi h)
      have HN2 := Lib.hid (fun h => nodup_miss (L := L) h)
      clear HB HQ1 HQ2 HOZ HZL hbw kh4 hb04
      obtain ⟨w5, rfl⟩ : ∃ q, q = wr := ⟨_, rfl⟩
      go_wp2_with fail
      go_loopw [6] (fun v wx => ∃ i : Nat, i ≤ n ∧ v = .int .i64 i ∧ Below w5.heap.size w5 wx ∧ Hid (∀ i' k', i' < i → k' < i' → L.getD k' jb0 ≠ L.getD i' jb0)) (fun v _ => n - (intOf v).toNat)
      case atStart => exact ⟨0, Nat.zero_le _, rfl, Below.refl _ _, Lib.hid fun i' k' h => by omega⟩
      case round =>
        obtain ⟨i, hi, rfl, hbw, HI⟩ := hrel
        obtain ⟨kcu, kfu, kzu, khu⟩ := blk_cells hbw (g := w.heap.size) (t := 24) (cs := #[.slice A n c, .slice B m d]) (by (focus (repeat' first | with_reducible assumption | (with_reducible refine heap_drew ?_) | (with_reducible refine heap_drewN ?_) | (with_reducible refine heap_new ?_; focus (first | rfl | omega | (simp; done))) | (with_reducible refine heap_old ?_) | (with_reducible apply heap_near') | ((with_reducible show Array.setIfInBounds _ _ _ = _); rfl) | (with_reducible refine heap_far ?_ ?_; focus (first | omega | (simp; omega) | (simp; done))) | (with_reducible apply heap_grown; with_reducible assumption; (focus (first | omega | (simp; omega)))) | (with_reducible apply heap_call; with_reducible assumption))))
        by_cases hlt : i < n
        · have hiL : i < L.length := by rw [← HNL.out]; exact hlt
          obtain ⟨w6, rfl⟩ : ∃ q, q = wr := ⟨_, rfl⟩
          go_wp2_with fail
          go_loopw [7] (fun v wx => ∃ k : Nat, k ≤ i ∧ v = .int .i64 k ∧ Below w6.heap.size w6 wx ∧ Hid (∀ k', k' < k → L.getD k' jb0 ≠ L.getD i jb0)) (fun v _ => i - (intOf v).toNat)
          case atStart => exact ⟨0, Nat.zero_le _, rfl, Below.refl _ _, Lib.hid fun k' h => by omega⟩
          case round =>
            obtain ⟨k, hk, rfl, hbx, HKK⟩ := hrel
            obtain ⟨kcv, kfv, kzv, khv⟩ := blk_cells hbx (g := w.heap.size) (t := 24) (cs := #[.slice A n c, .slice B m d]) (by (focus (repeat' first | with_reducible assumption | (with_reducible refine heap_drew ?_) | (with_reducible refine heap_drewN ?_) | (with_reducible refine heap_new ?_; focus (first | rfl | omega | (simp; done))) | (with_reducible refine heap_old ?_) | (with_reducible apply heap_near') | ((with_reducible show Array.setIfInBounds _ _ _ = _); rfl) | (with_reducible refine heap_far ?_ ?_; focus (first | omega | (simp; omega) | (simp; done))) | (with_reducible apply heap_grown; with_reducible assumption; (focus (first | omega | (simp; omega)))) | (with_reducible apply heap_call; with_reducible assumption))))
            have hb06 : Below w.heap.size w wr := below_call (below_call hb05 hbw) hbx
            by_cases hlk : k < i
            · obtain ⟨b, off, rfl, hb, hc⟩ := HO.out (by omega)
              obtain ⟨x1, x2, x3, x4⟩ := hc k (by omega)
              obtain ⟨y1, y2, y3, y4⟩ := hc i hlt
              have c1 := (hb06.cell (p := ⟨b, off + k * 4, none⟩) hb).trans x1
              have c2 := (hb06.cell (p := ⟨b, off + k * 4 + 1, none⟩) hb).trans x2
              have c3 := (hb06.cell (p := ⟨b, off + k * 4 + 2, none⟩) hb).trans x3
              have c4 := (hb06.cell (p := ⟨b, off + k * 4 + 3, none⟩) hb).trans x4
              have d1 := (hb06.cell (p := ⟨b, off + i * 4, none⟩) hb).trans y1
              have d2 := (hb06.cell (p := ⟨b, off + i * 4 + 1, none⟩) hb).trans y2
              have d3 := (hb06.cell (p := ⟨b, off + i * 4 + 2, none⟩) hb).trans y3
              have d4 := (hb06.cell (p := ⟨b, off + i * 4 + 3, none⟩) hb).trans y4
              clear hc x1 x2 x3 x4 y1 y2 y3 y4 HO
              have z0 : (0 : Int) ≤ (k : Int) := by omega
              have z1 : (k : Int) < (n : Int) := by omega
              have z2 : (0 : Int) ≤ (i : Int) := by omega
              have z3 : (i : Int) < (n : Int) := by omega
              have z4 : (k : Int) < (i : Int) := by omega
              have HB1 := Lib.hid (HN1.out i k hlk hiL)
              have HB2 : Hid (L.getD k jb0 ≠ L.getD i jb0 → ∀ k', k' < k + 1 → L.getD k' jb0 ≠ L.getD i jb0) := Lib.hid fun h k' hj => by
                rcases Nat.lt_or_ge k' k with h1 | h1
                · exact HKK.out k' h1
                · obtain rfl : k' = k := by omega
                  exact h
              clear HN1 HN2 HKK HI
              generalize L.getD k jb0 = a at *
              generalize L.getD i jb0 = a2 at *
              obtain ⟨st, us, sp, nm⟩ := a
              obtain ⟨st0, us0, sp0, nm0⟩ := a2
              have hq := fun W => run_eq_job st us sp nm st0 us0 sp0 nm0 W
              have hgt := job_guard
              by_cases he : (⟨st, us, sp, nm⟩ : Jb) = ⟨st0, us0, sp0, nm0⟩
              · have HBt := Lib.hid (HB1.out he)
                rw [decide_eq_true he] at hq
                clear HB1 HB2 he
                go_wp2_with fail
                go_quiet (fail)
                go_wp2
                go_ret
                exact ⟨by rw [HQ.out, HBt.out]; rfl, below_drewN hb06 _⟩
              · have HBt := Lib.hid (HB2.out he)
                rw [decide_eq_false he] at hq
                clear HB1 HB2 he
                go_wp2_with fail
                go_quiet (fail)
                go_wp2
                go_roundw
                case rel => exact ⟨k + 1, by omega, by go_num, below_drewN hbx _, HBt⟩
                case measure => simp [intOf]; omega
            · obtain rfl : k = i := by omega
              have HN : Hid (∀ i' k', i' < k + 1 → k' < i' → L.getD k' jb0 ≠ L.getD i' jb0) := Lib.hid fun i' k' h1 h2 => by
                rcases Nat.lt_or_ge i' k with h3 | h3
                · exact HI.out i' k' h3 h2
                · obtain rfl : i' = k := by omega
                  exact HKK.out k' h2
              have hbn : Below w5.heap.size w5 wr := below_call hbw hbx
              clear HKK HI
              go_wp2_with fail
              go_roundw
              case rel => exact ⟨k + 1, by omega, by go_num, hbn, HN⟩
              case measure => simp [intOf]; omega
        · obtain rfl : i = n := by omega
          have HBt := Lib.hid (HN2.out (fun i' k' h1 h2 => HI.out i' k' (by rw [HNL.out]; exact h1) h2))
          go_wp2_with fail
          go_ret
          exact ⟨by rw [HQ.out, HBt.out]; rfl, below_call hb05 hbw⟩
end Go.Proofs.YtobgnncdldfkkaaDoor
