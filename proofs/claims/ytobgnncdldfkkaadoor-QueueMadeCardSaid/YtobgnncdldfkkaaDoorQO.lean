/- The walk of trcref38.Take. -/
import Derived.Test.YtobgnncdldfkkaaDoorQI
import Derived.Test.YtobgnncdldfkkaaDoorQL
namespace Go.Proofs.YtobgnncdldfkkaaDoor
open Go.RowKit
set_option linter.unusedSimpArgs false
set_option linter.unusedVariables false

/-- a is the first early place from k on, or -1 -/
def EF (L : List Jb) (k : Nat) (a : Int) : Prop := (a = -1 ∧ ∀ j, k ≤ j → j < L.length → je (L.getD j jb0) = false) ∨ ∃ i : Nat, a = i ∧ k ≤ i ∧ i < L.length ∧ je (L.getD i jb0) = true ∧ ∀ j, k ≤ j → j < i → je (L.getD j jb0) = false
theorem EF.start (L : List Jb) : EF L L.length (-1) := .inl ⟨rfl, fun j h1 h2 => by omega⟩
theorem EF.hit {L : List Jb} {k : Nat} {a : Int} (h : EF L (k + 1) a) (hk : k < L.length) (hj : je (L.getD k jb0) = true) : EF L k (k : Int) :=
  .inr ⟨k, rfl, Nat.le_refl _, hk, hj, fun j h1 h2 => by omega⟩
theorem EF.miss {L : List Jb} {k : Nat} {a : Int} (h : EF L (k + 1) a) (hj : je (L.getD k jb0) = false) : EF L k a := by
  have hs : ∀ j, k ≤ j → j ≠ k → k + 1 ≤ j := fun j h1 h2 => by omega
  rcases h with ⟨h1, h2⟩ | ⟨i, h1, h2, h3, h4, h5⟩
  · refine .inl ⟨h1, fun j h3 h4 => ?_⟩
    by_cases e : j = k
    · subst e; exact hj
    · exact h2 j (hs j h3 e) h4
  · refine .inr ⟨i, h1, by omega, h3, h4, fun j h6 h7 => ?_⟩
    by_cases e : j = k
    · subst e; exact hj
    · exact h5 j (hs j h6 e) h7
theorem EF.done {L : List Jb} {a : Int} (h : EF L 0 a) : a = eIdx L := by
  rcases h with ⟨h1, h2⟩ | ⟨i, h1, h2, h3, h4, h5⟩
  · rw [h1]
    exact (fIdx_miss (P := fun a => je a) (fun j hj => h2 j (Nat.zero_le _) hj)).symm
  · rw [h1]
    exact (fIdx_hit (P := fun a => je a) h3 h4 (fun j hj => h5 j (Nat.zero_le _) hj)).symm
theorem all_free (n : Nat) (L M : List Jb) (hn : n = L.length) (b : Bool) (hb : b = (decide (0 < n) && M.all (fun a => !je a))) : b = !(decide (L = [] ∨ M.any (fun a => je a) = true)) := by
  rw [hb]
  have h1 : decide (0 < n) = !decide (L = []) := by
    cases L with
    | nil => simp [hn]
    | cons x r => simp [hn]
  have h2 : M.all (fun a => !je a) = !(M.any (fun a => je a)) := by
    rw [List.not_any_eq_all_not]
  rw [h1, h2]
  cases M.any (fun a => je a) <;> simp

set_option maxRecDepth 100000 in
set_option maxHeartbeats 8000000 in
theorem rtake_any (A : Option Addr) (n c : Nat) (L : List Jb) (B : Option Addr) (m d : Nat) (M : List Jb) (w : World) (h : RdR RJ 4 w A n c L) (h2 : RdR RJ 4 w B m d M) (hn : n ≤ 50000) (hm : m ≤ 50000) :
    Calls Tryd.prog 28 #[.agg #[.slice A n c, .slice B m d]] w (RTk w (tkW L M) (tkT L M) (tkJ L M) (tkOk L M)) := by
  obtain ⟨i0, hi0, hz0, hz1, hz2⟩ := info_parts job_info2
  have HO := Lib.hid fun (h0 : 0 < n) => RdJ.opened h h0
  have HO2 := Lib.hid fun (h0 : 0 < m) => RdJ.opened h2 h0
  have HNL := Lib.hid h.len
  have HNM := Lib.hid h2.len
  have HRA := Lib.hid h
  have HRB := Lib.hid h2
  have HCU : Hid (∀ (I : Int) (i : Nat) (W : World), Below w.heap.size w W → I = (i : Int) → i < n → Calls Tryd.prog 43 #[.slice A n c, .int .i64 I] W (RNewJ W (n - 1) (L.eraseIdx i))) := Lib.hid fun I i W hW hI hi => cut_job A n c L I i W (RdJ.below h hW) hI hi hn
  have HTK : Hid (tkAt L M = if 0 ≤ eIdx L then some (eIdx L).toNat else if L = [] ∨ M.any (fun a => je a) = true then none else some 0) := Lib.hid rfl
  have hlt := Lib.hid (fun i (e : tkAt L M = some i) => tkAt_lt e)
  have HN := Lib.hid (fun e : tkAt L M = none => tk_none e)
  have HS := Lib.hid (fun i (e : tkAt L M = some i) => tk_some e)
  generalize tkW L M = rW at *
  generalize tkT L M = rT at *
  generalize tkJ L M = rJ at *
  generalize tkOk L M = rO at *
  generalize tkAt L M = rA at *
  have hzero : jb0.val = .agg #[.int .i64 0, .string ⟨#[]⟩, .int .i64 0, .string ⟨#[]⟩] := rfl
  clear h h2
  go_enter Tryd.func28, Tryd.ntmps28
  go_wp2_with fail
  go_loopw [5, 6] (fun v5 v6 wr => ∃ (k : Nat) (a : Int), k ≤ n ∧ v5 = .int .i64 a ∧ v6 = .int .i64 ((k : Int) - 1) ∧ Below (((w.alloc (.cells #[.slice A n c, .slice B m d] 24)).alloc (.cells #[.slice none 0 0, .slice none 0 0] 24)).alloc (.cells #[.int .i64 0, .string ⟨#[]⟩, .int .i64 0, .string ⟨#[]⟩] 28)).heap.size (((w.alloc (.cells #[.slice A n c, .slice B m d] 24)).alloc (.cells #[.slice none 0 0, .slice none 0 0] 24)).alloc (.cells #[.int .i64 0, .string ⟨#[]⟩, .int .i64 0, .string ⟨#[]⟩] 28)) wr ∧ Hid (EF L k a)) (fun _ v6 _ => ((intOf v6) + 1).toNat)
  case atStart => exact ⟨n, -1, Nat.le_refl _, rfl, by first | rfl | (congr 1; try omega), Below.refl _ _, Lib.hid (by rw [HNL.out]; exact EF.start L)⟩
  case round =>
    obtain ⟨k, a, hk, rfl, rfl, hbw, HE⟩ := hrel
    obtain ⟨kcq, kfq, kzq, khq⟩ := blk_cells hbw (g := w.heap.size) (t := 24) (cs := #[.slice A n c, .slice B m d]) (by (focus (repeat' first | with_reducible assumption | (with_reducible refine heap_drew ?_) | (with_reducible refine heap_drewN ?_) | (with_reducible refine heap_new ?_; focus (first | rfl | omega | (simp; done))) | (with_reducible refine heap_old ?_) | (with_reducible apply heap_near') | ((with_reducible show Array.setIfInBounds _ _ _ = _); rfl) | (with_reducible refine heap_far ?_ ?_; focus (first | omega | (simp; omega) | (simp; done))) | (with_reducible apply heap_grown; with_reducible assumption; (focus (first | omega | (simp; omega)))) | (with_reducible apply heap_call; with_reducible assumption))))
    obtain ⟨kcr, kfr, kzr, khr⟩ := blk_cells hbw (g := w.heap.size + 1) (t := 24) (cs := #[.slice none 0 0, .slice none 0 0]) (by (focus (repeat' first | with_reducible assumption | (with_reducible refine heap_drew ?_) | (with_reducible refine heap_drewN ?_) | (with_reducible refine heap_new ?_; focus (first | rfl | omega | (simp; done))) | (with_reducible refine heap_old ?_) | (with_reducible apply heap_near') | ((with_reducible show Array.setIfInBounds _ _ _ = _); rfl) | (with_reducible refine heap_far ?_ ?_; focus (first | omega | (simp; omega) | (simp; done))) | (with_reducible apply heap_grown; with_reducible assumption; (focus (first | omega | (simp; omega)))) | (with_reducible apply heap_call; with_reducible assumption))))
    obtain ⟨kcj, kfj, kzj, khj⟩ := blk_cells hbw (g := w.heap.size + 2) (t := 28) (cs := #[.int .i64 0, .string ⟨#[]⟩, .int .i64 0, .string ⟨#[]⟩]) (by (focus (repeat' first | with_reducible assumption | (with_reducible refine heap_drew ?_) | (with_reducible refine heap_drewN ?_) | (with_reducible refine heap_new ?_; focus (first | rfl | omega | (simp; done))) | (with_reducible refine heap_old ?_) | (with_reducible apply heap_near') | ((with_reducible show Array.setIfInBounds _ _ _ = _); rfl) | (with_reducible refine heap_far ?_ ?_; focus (first | omega | (simp; omega) | (simp; done))) | (with_reducible apply heap_grown; with_reducible assumption; (focus (first | omega | (simp; omega)))) | (with_reducible apply heap_call; with_reducible assumption))))
    have hb0 : Below w.heap.size w wr := by (refine bel_out ?_; (focus (repeat' first | (with_reducible refine bel_refl ?_) | with_reducible assumption | with_reducible refine bel_drew ?_ | with_reducible refine bel_drewN _ ?_ | with_reducible refine bel_alloc _ ?_ | with_reducible refine bel_set ?_ _ ?_ | (with_reducible apply bel_call; with_reducible assumption) | (with_reducible apply bel_owg; with_reducible assumption; (focus omega)) | with_reducible exact Nat.le_refl _ | omega | (simp; done) | (simp; omega))))
    have hb0z := hb0.size
    cases k with
    | zero =>
      have HEI := Lib.hid (EF.done HE.out)
      clear HE hbw
      obtain ⟨w5, rfl⟩ : ∃ q, q = wr := ⟨_, rfl⟩
      go_wp2_with fail
      go_loopw [7, 8] (fun v7 v8 wx => ∃ (k : Nat) (b : Bool), k ≤ m ∧ v7 = .bool b ∧ v8 = .int .i64 (k : Int) ∧ wx = w5 ∧ Hid (b = (decide (0 < n) && (M.take k).all (fun a => !je a)))) (fun _ v8 _ => m - (intOf v8).toNat)
      case atStart => exact ⟨0, decide (0 < n), Nat.zero_le _, by simp, rfl, rfl, Lib.hid (by simp)⟩
      case round =>
        obtain ⟨k, bb, hkm, rfl, rfl, hwx, HBB⟩ := hrel
        subst hwx
        by_cases hlm : k < m
        · have z0 : (0 : Int) ≤ (k : Int) := by omega
          have z1 : (k : Int) < (m : Int) := by omega
          have hkM : k < M.length := by rw [← HNM.out]; exact hlm
          have HT : Hid ((M.take (k + 1)).all (fun a => !je a) = ((M.take k).all (fun a => !je a) && !je (M.getD k jb0))) := Lib.hid (by
            rw [List.take_add_one, List.getElem?_eq_getElem hkM, List.all_append]
            simp [List.getD, List.getElem?_eq_getElem hkM])
          obtain ⟨b, off, rfl, hb, hc⟩ := HO2.out (by omega)
          obtain ⟨x1, x2, x3, x4⟩ := hc k hlm
          have c1 := (hb0.cell (p := ⟨b, off + k * 4, none⟩) hb).trans x1
          clear hc x1 x2 x3 x4 HO2 hkM
          unfold je at HT
          generalize (M.getD k jb0).st = st at *
          cases bb with
          | false =>
            have HBn : Hid (false = (decide (0 < n) && (M.take (k + 1)).all (fun a => !je a))) := Lib.hid (by unfold je at HBB ⊢; rw [HT.out, ← Bool.and_assoc, ← HBB.out]; rfl)
            clear HT HBB
            go_wp2_with fail
            go_roundw
            case rel => exact ⟨k + 1, false, by omega, by first | rfl | trivial, by go_num, by first | rfl | trivial, HBn⟩
            case measure => simp [intOf]; omega
          | true =>
            have HBn : Hid ((st == 2) = (decide (0 < n) && (M.take (k + 1)).all (fun a => !je a))) := Lib.hid (by unfold je at HBB ⊢; rw [HT.out, ← Bool.and_assoc, ← HBB.out]; simp [bne])
            clear HT HBB
            go_wp2_with fail
            go_roundw
            case rel => exact ⟨k + 1, (st == 2), by omega, by first | rfl | trivial, by go_num, by first | rfl | trivial, HBn⟩
            case measure => simp [intOf]; omega
        · obtain rfl : k = m := by omega
          have HFR := Lib.hid (all_free n L M HNL.out bb (by rw [HBB.out, HNM.out, List.take_length]))
          clear HBB
          by_cases hr0 : a < 0
          · have hrd : decide (a < 0) = true := decide_eq_true hr0
            rw [HEI.out] at hr0
            rw [if_neg (by omega)] at HTK
            cases bb with
            | false =>
              have hP : L = [] ∨ M.any (fun a => je a) = true := by
                have := HFR.out
                by_cases hh : L = [] ∨ M.any (fun a => je a) = true
                · exact hh
                · rw [decide_eq_false hh] at this; cases this
              have HNN := Lib.hid (HN.out (by rw [HTK.out, if_pos hP]))
              clear HTK HN HS hlt hP HFR HEI
              go_wp2_with fail
              have hbf : Below w.heap.size w ((((((wr.setCell ⟨w.heap.size + 1, 0, none⟩ (.slice A n c)).setCell ⟨w.heap.size + 1, 1, none⟩ (.slice B k d)).setCell ⟨w.heap.size + 1 + 1, 0, none⟩ (.int .i64 0)).setCell ⟨w.heap.size + 1 + 1, 1, none⟩ (.string ⟨#[]⟩)).setCell ⟨w.heap.size + 1 + 1, 2, none⟩ (.int .i64 0)).setCell ⟨w.heap.size + 1 + 1, 3, none⟩ (.string ⟨#[]⟩)) := by (refine bel_out ?_; (focus (repeat' first | (with_reducible refine bel_refl ?_) | with_reducible assumption | with_reducible refine bel_drew ?_ | with_reducible refine bel_drewN _ ?_ | with_reducible refine bel_alloc _ ?_ | with_reducible refine bel_set ?_ _ ?_ | (with_reducible apply bel_call; with_reducible assumption) | (with_reducible apply bel_owg; with_reducible assumption; (focus omega)) | with_reducible exact Nat.le_refl _ | omega | (simp; done) | (simp; omega))))
              refine bodyPost_ret (v := .tuple #[.agg #[.slice A n c, .slice B k d], jb0.val, .bool false]) ?_ rfl ⟨A, n, c, B, k, d, ?_, ?_, ?_, hbf⟩
              · simp [results, Tryd.results28, go_sem, kcr, kcj, hzero]
              · rw [HNN.out.2.2.1, HNN.out.2.2.2]
              · rw [HNN.out.1]; exact RdJ.below HRA.out hbf
              · rw [HNN.out.2.1]; exact RdJ.below HRB.out hbf
            | true =>
              have hP : ¬ (L = [] ∨ M.any (fun a => je a) = true) := fun hh => by
                have := HFR.out
                rw [decide_eq_true hh] at this
                cases this
              obtain ⟨i, hi⟩ : ∃ i : Nat, i = 0 := ⟨0, rfl⟩
              have HSS := Lib.hid (HS.out i (by rw [HTK.out, if_neg hP, hi]))
              have hin : i < n := by
                have : L ≠ [] := fun e => hP (.inl e)
                have := List.length_pos_iff.2 this
                rw [hi, HNL.out]
                exact this
              have hmx : max a 0 = (i : Int) := by have := of_decide_eq_true hrd; omega
              clear HTK HN HS hlt hP HFR HEI hi
              have z0 : (0 : Int) ≤ (i : Int) := by omega
              have z1 : (i : Int) < (n : Int) := by omega
              obtain ⟨b, off, rfl, hb, hc⟩ := HO.out (by omega)
              obtain ⟨x1, x2, x3, x4⟩ := hc i hin
              have c1 := (hb0.cell (p := ⟨b, off + i * 4, none⟩) hb).trans x1
              have c2 := (hb0.cell (p := ⟨b, off + i * 4 + 1, none⟩) hb).trans x2
              have c3 := (hb0.cell (p := ⟨b, off + i * 4 + 2, none⟩) hb).trans x3
              have c4 := (hb0.cell (p := ⟨b, off + i * 4 + 3, none⟩) hb).trans x4
              clear hc x1 x2 x3 x4 HO HO2
              generalize L.getD i jb0 = jj at *
              obtain ⟨st, us, sp, nm⟩ := jj
              simp only [] at c1 c2 c3 c4
              go_wp2_with fail
              have kh9 : (wr.alloc (.cells #[.int .i64 st, .string us, .int .i64 sp, .string nm] 28)).heap[w.heap.size]? = some (.cells #[.slice (some ⟨b, off, none⟩) n c, .slice B k d] 24 (0, 0)) := heap_old khq
              have kh9r : (wr.alloc (.cells #[.int .i64 st, .string us, .int .i64 sp, .string nm] 28)).heap[w.heap.size + 1]? = some (.cells #[.slice none 0 0, .slice none 0 0] 24 (0, 0)) := heap_old khr
              have kh9j : (wr.alloc (.cells #[.int .i64 st, .string us, .int .i64 sp, .string nm] 28)).heap[w.heap.size + 2]? = some (.cells #[.int .i64 0, .string ⟨#[]⟩, .int .i64 0, .string ⟨#[]⟩] 28 (0, 0)) := heap_old khj
              have kh9t : (wr.alloc (.cells #[.int .i64 st, .string us, .int .i64 sp, .string nm] 28)).heap[wr.heap.size]? = some (.cells #[.int .i64 st, .string us, .int .i64 sp, .string nm] 28 (0, 0)) := heap_new rfl
              have hb9 : Below w.heap.size w (wr.alloc (.cells #[.int .i64 st, .string us, .int .i64 sp, .string nm] 28)) := hb0.alloc hb0z _
              have hz9 : wr.heap.size < (wr.alloc (.cells #[.int .i64 st, .string us, .int .i64 sp, .string nm] 28)).heap.size := by rw [size_alloc_]; omega
              have hg9 : w.heap.size + 3 ≤ wr.heap.size := by omega
              generalize wr.alloc (.cells #[.int .i64 st, .string us, .int .i64 sp, .string nm] 28) = w9 at kh9 kh9r kh9j kh9t hb9 hz9 ⊢
              generalize wr.heap.size = g9 at kh9t hz9 hg9 ⊢
              have hz9w : w.heap.size ≤ w9.heap.size := by omega
              have HK : Hid (∀ W : World, Bel w9.heap.size w9 W → W.cell? ⟨w.heap.size, 0, none⟩ = some (.slice (some ⟨b, off, none⟩) n c) ∧ W.cell? ⟨w.heap.size, 1, none⟩ = some (.slice B k d) ∧ W.cell? ⟨g9, 0, none⟩ = some (.int .i64 st) ∧ W.cell? ⟨g9, 1, none⟩ = some (.string us) ∧ W.cell? ⟨g9, 2, none⟩ = some (.int .i64 sp) ∧ W.cell? ⟨g9, 3, none⟩ = some (.string nm)) := Lib.hid fun W hW => by
                have h1 := heap_call hW.2 kh9
                have h2 := heap_call hW.2 kh9t
                exact ⟨Blk.cell h1 0, Blk.cell h1 1, Blk.cell h2 0, Blk.cell h2 1, Blk.cell h2 2, Blk.cell h2 3⟩
              have HK2 : Hid (∀ (W : World) (g i : Nat) (u : Value), (W.cell? ⟨w.heap.size, 0, none⟩ = some (.slice (some ⟨b, off, none⟩) n c) ∧ W.cell? ⟨w.heap.size, 1, none⟩ = some (.slice B k d) ∧ W.cell? ⟨g9, 0, none⟩ = some (.int .i64 st) ∧ W.cell? ⟨g9, 1, none⟩ = some (.string us) ∧ W.cell? ⟨g9, 2, none⟩ = some (.int .i64 sp) ∧ W.cell? ⟨g9, 3, none⟩ = some (.string nm)) → (g = w.heap.size + 1 ∨ g = w.heap.size + 1 + 1) → (W.setCell ⟨g, i, none⟩ u).cell? ⟨w.heap.size, 0, none⟩ = some (.slice (some ⟨b, off, none⟩) n c) ∧ (W.setCell ⟨g, i, none⟩ u).cell? ⟨w.heap.size, 1, none⟩ = some (.slice B k d) ∧ (W.setCell ⟨g, i, none⟩ u).cell? ⟨g9, 0, none⟩ = some (.int .i64 st) ∧ (W.setCell ⟨g, i, none⟩ u).cell? ⟨g9, 1, none⟩ = some (.string us) ∧ (W.setCell ⟨g, i, none⟩ u).cell? ⟨g9, 2, none⟩ = some (.int .i64 sp) ∧ (W.setCell ⟨g, i, none⟩ u).cell? ⟨g9, 3, none⟩ = some (.string nm)) := Lib.hid fun W g i u hW hg => by
                have hn1 : ∀ o : Nat, (⟨w.heap.size, o, none⟩ : Addr) ≠ ⟨g, i, none⟩ := fun o e => by injection e; omega
                have hn2 : ∀ o : Nat, (⟨g9, o, none⟩ : Addr) ≠ ⟨g, i, none⟩ := fun o e => by injection e; omega
                obtain ⟨h1, h2, h3, h4, h5, h6⟩ := hW
                exact ⟨(World.cell?_setCell_other _ _ _ _ (hn1 0).symm).trans h1, (World.cell?_setCell_other _ _ _ _ (hn1 1).symm).trans h2, (World.cell?_setCell_other _ _ _ _ (hn2 0).symm).trans h3, (World.cell?_setCell_other _ _ _ _ (hn2 1).symm).trans h4, (World.cell?_setCell_other _ _ _ _ (hn2 2).symm).trans h5, (World.cell?_setCell_other _ _ _ _ (hn2 3).symm).trans h6⟩
              have HKR : Hid (∀ (W : World) {G : Prop}, Bel w9.heap.size w9 W → ((∀ o, W.cell? ⟨w.heap.size + 1, o, none⟩ = (#[.slice none 0 0, .slice none 0 0] : Array Value)[o]?) → (∀ o, W.frozen? ⟨w.heap.size + 1, o, none⟩ = false) → (∀ o, W.cell? ⟨w.heap.size + 2, o, none⟩ = (#[.int .i64 0, .string ⟨#[]⟩, .int .i64 0, .string ⟨#[]⟩] : Array Value)[o]?) → (∀ o, W.frozen? ⟨w.heap.size + 2, o, none⟩ = false) → G) → G) := Lib.hid fun W G hW hG => by
                have h1 := heap_call hW.2 kh9r
                have h2 := heap_call hW.2 kh9j
                exact hG (Blk.cell h1) (Blk.frozen h1) (Blk.cell h2) (Blk.frozen h2)
              have hlitf := Lib.hid (fun W => RdJ.lit (w := W) (t := 0) ⟨st, us, sp, nm⟩)
              clear kcq kfq khq kcr kfr khr kcj kfj khj c1 c2 c3 c4 hb0 kh9 kh9r kh9j kh9t
              go_region_held3 (fun W => W.cell? ⟨w.heap.size, 0, none⟩ = some (.slice (some ⟨b, off, none⟩) n c) ∧ W.cell? ⟨w.heap.size, 1, none⟩ = some (.slice B k d) ∧ W.cell? ⟨g9, 0, none⟩ = some (.int .i64 st) ∧ W.cell? ⟨g9, 1, none⟩ = some (.string us) ∧ W.cell? ⟨g9, 2, none⟩ = some (.int .i64 sp) ∧ W.cell? ⟨g9, 3, none⟩ = some (.string nm))
                (first | (refine HK.out _ ?_; (focus (repeat' first | (with_reducible refine bel_refl ?_) | with_reducible assumption | with_reducible refine bel_drew ?_ | with_reducible refine bel_drewN _ ?_ | with_reducible refine bel_alloc _ ?_ | with_reducible refine bel_set ?_ _ ?_ | (with_reducible apply bel_call; with_reducible assumption) | (with_reducible apply bel_owg; with_reducible assumption; (focus omega)) | with_reducible exact Nat.le_refl _ | omega | (simp; done) | (simp; omega))); done) | (repeat (first | with_reducible assumption | (with_reducible refine HK2.out _ _ _ _ ?_ (by first | exact .inl rfl | exact .inr rfl)))))
                (first
                  | (go_at_call 43; ((with_reducible refine (HCU.out _ i _ ?_ rfl hin).mono ?_); (focus (refine bel_out ?_; (focus (repeat' first | (with_reducible refine bel_refl ?_) | with_reducible assumption | with_reducible refine bel_drew ?_ | with_reducible refine bel_drewN _ ?_ | with_reducible refine bel_alloc _ ?_ | with_reducible refine bel_set ?_ _ ?_ | (with_reducible apply bel_call; with_reducible assumption) | (with_reducible apply bel_owg; with_reducible assumption; (focus omega)) | with_reducible exact Nat.le_refl _ | omega | (simp; done) | (simp; omega))))); rintro e w6 ⟨A6, c6, rfl, ho6, hb6⟩; refine HKR.out w6 ?_ ?_; (focus (focus (repeat' first | (with_reducible refine bel_refl ?_) | with_reducible assumption | with_reducible refine bel_drew ?_ | with_reducible refine bel_drewN _ ?_ | with_reducible refine bel_alloc _ ?_ | with_reducible refine bel_set ?_ _ ?_ | (with_reducible apply bel_call; with_reducible assumption) | (with_reducible apply bel_owg; with_reducible assumption; (focus omega)) | with_reducible exact Nat.le_refl _ | omega | (simp; done) | (simp; omega)))); intro kr1 kr2 kr3 kr4))
                  | (refine step_append_r _ rfl (.tmp 68) (.tmp 70) 22 rfl 4 48 w9.heap.size 28 i0 _ RJ.stay (by decide) Tryd.underlying22 hi0 hz0 hz1 hz2 rfl (by omega) A7 k c7 M rfl ?_ _ 1 1 rfl [⟨st, us, sp, nm⟩] [.int .i64 st, .string us, .int .i64 sp, .string nm] ?_ (hlitf.out _) rfl ?_ ?_ ?_ ?_ ?_; (focus (repeat' first | with_reducible assumption | (with_reducible apply OwR.drewX) | (with_reducible apply OwJ.drewN) | (with_reducible apply OwJ.alloc) | (with_reducible apply OwR.call RJ.stay; with_reducible assumption))); (focus (refine Reads.ofBlk (t := 28) (fr := (0, 0)) (cs := #[.int .i64 st, .string us, .int .i64 sp, .string nm]) ?_ rfl; (focus (repeat' first | with_reducible assumption | (with_reducible refine heap_drew ?_) | (with_reducible refine heap_drewN ?_) | (with_reducible refine heap_new ?_; focus (first | rfl | omega | (simp; done))) | (with_reducible refine heap_old ?_) | (with_reducible apply heap_near') | ((with_reducible show Array.setIfInBounds _ _ _ = _); rfl) | (with_reducible refine heap_far ?_ ?_; focus (first | omega | (simp; omega) | (simp; done))) | (with_reducible apply heap_grown; with_reducible assumption; (focus (first | omega | (simp; omega)))) | (with_reducible apply heap_call; with_reducible assumption))))); (focus (simp [Value.oneCell'])); (focus (unfold maxLen; omega)); (focus omega); (focus (refine Below.size (B := w9.heap.size) (w := w9) ?_; (refine bel_out ?_; (focus (repeat' first | (with_reducible refine bel_refl ?_) | with_reducible assumption | with_reducible refine bel_drew ?_ | with_reducible refine bel_drewN _ ?_ | with_reducible refine bel_alloc _ ?_ | with_reducible refine bel_set ?_ _ ?_ | (with_reducible apply bel_call; with_reducible assumption) | (with_reducible apply bel_owg; with_reducible assumption; (focus omega)) | with_reducible exact Nat.le_refl _ | omega | (simp; done) | (simp; omega)))))); intro A8 c8 w8 ho8 hg8; refine HKR.out w8 ?_ ?_; (focus (focus (repeat' first | (with_reducible refine bel_refl ?_) | with_reducible assumption | with_reducible refine bel_drew ?_ | with_reducible refine bel_drewN _ ?_ | with_reducible refine bel_alloc _ ?_ | with_reducible refine bel_set ?_ _ ?_ | (with_reducible apply bel_call; with_reducible assumption) | (with_reducible apply bel_owg; with_reducible assumption; (focus omega)) | with_reducible exact Nat.le_refl _ | omega | (simp; done) | (simp; omega)))); intro kr1 kr2 kr3 kr4)
                  | (refine step_append_r _ rfl (.const (.slice none 0 0)) (.tmp 67) 22 rfl 4 48 w9.heap.size 28 i0 _ RJ.stay (by decide) Tryd.underlying22 hi0 hz0 hz1 hz2 rfl (by omega) none 0 0 [] rfl (OwR.nil _ _ _ _ _) B k d rfl M (jcells M) ?_ (fits_jcells _ _) HNM.out (jcells_one _) ?_ ?_ ?_ ?_; (focus (refine RdJ.vals (RdJ.below HRB.out ?_); (refine bel_out ?_; (focus (repeat' first | (with_reducible refine bel_refl ?_) | with_reducible assumption | with_reducible refine bel_drew ?_ | with_reducible refine bel_drewN _ ?_ | with_reducible refine bel_alloc _ ?_ | with_reducible refine bel_set ?_ _ ?_ | (with_reducible apply bel_call; with_reducible assumption) | (with_reducible apply bel_owg; with_reducible assumption; (focus omega)) | with_reducible exact Nat.le_refl _ | omega | (simp; done) | (simp; omega)))))); (focus (unfold maxLen; omega)); (focus omega); (focus (refine Below.size (B := w9.heap.size) (w := w9) ?_; (refine bel_out ?_; (focus (repeat' first | (with_reducible refine bel_refl ?_) | with_reducible assumption | with_reducible refine bel_drew ?_ | with_reducible refine bel_drewN _ ?_ | with_reducible refine bel_alloc _ ?_ | with_reducible refine bel_set ?_ _ ?_ | (with_reducible apply bel_call; with_reducible assumption) | (with_reducible apply bel_owg; with_reducible assumption; (focus omega)) | with_reducible exact Nat.le_refl _ | omega | (simp; done) | (simp; omega)))))); intro A7 c7 w7 ho7 hg7; rw [Nat.zero_add, List.nil_append] at ho7; rw [Nat.zero_add]; (have hb7 := hg7.new)))
              all_goals
                have hne : Ne2 A7 A6 := fun g g1 g2 => by
                  have l6 := OwJ.lt ho6 g g2
                  have l7 := OwJ.lt ho7 g g1
                  have s6 := hb6.size
                  have s7 := hb7.size
                  rcases hg7.n with e | ⟨q, e, hq⟩
                  · rw [g1] at e; cases e
                  · have : q = g := by rw [g1] at e; injection e with e; exact e.symm
                    simp only [size_alloc_, size_drew] at l6 l7 s6 s7 hq
                    omega
                have hm6 : OwR RJ 4 w6 (w.heap.size + 3) 28 A6 (n - 1) c6 (L.eraseIdx i) := ho6.mono (Nat.le_trans (show w.heap.size + 3 ≤ w9.heap.size by omega) (Below.size (B := w9.heap.size) (w := w9) (by (refine bel_out ?_; (focus (repeat' first | (with_reducible refine bel_refl ?_) | with_reducible assumption | with_reducible refine bel_drew ?_ | with_reducible refine bel_drewN _ ?_ | with_reducible refine bel_alloc _ ?_ | with_reducible refine bel_set ?_ _ ?_ | (with_reducible apply bel_call; with_reducible assumption) | (with_reducible apply bel_owg; with_reducible assumption; (focus omega)) | with_reducible exact Nat.le_refl _ | omega | (simp; done) | (simp; omega)))))))
                have hm8 : OwR RJ 4 w8 (w.heap.size + 3) 28 A8 (k + 1) c8 (M ++ [⟨st, us, sp, nm⟩]) := ho8.mono (by omega)
                go_wp2
                refine bodyPost_ret (v := .tuple #[.agg #[.slice A6 (n - 1) c6, .slice A8 (k + 1) c8], .agg #[.int .i64 st, .string us, .int .i64 sp, .string nm], .bool true]) ?_ rfl ⟨A6, n - 1, c6, A8, k + 1, c8, ?_, ?_, ?_, ?_⟩
                · simp [results, Tryd.results28, go_sem, kr1, kr3]
                · rw [HSS.out.2.2.1, HSS.out.2.2.2]; rfl
                · rw [HSS.out.1]; refine OwR.rd (base := w.heap.size + 3) (e := 28) ?_; clear ho6 ho7 ho8 hm8; (focus (repeat' first | with_reducible assumption | (with_reducible apply OwR.drewX) | (with_reducible refine OwR.setX ?_ (?hlt : _ < _) _; case hlt => (dsimp only; omega)) | (with_reducible apply OwJ.alloc) | (with_reducible refine OwR.call RJ.stay ?_ hb6) | (with_reducible refine OwJ.grownB ?_ hg8 hne) | (with_reducible refine OwR.call RJ.stay ?_ hb7)))
                · rw [HSS.out.2.1]; refine OwR.rd (base := w.heap.size + 3) (e := 28) ?_; clear ho6 ho7 ho8 hm6; (focus (repeat' first | with_reducible assumption | (with_reducible apply OwR.drewX) | (with_reducible refine OwR.setX ?_ (?hlt : _ < _) _; case hlt => (dsimp only; omega)) | (with_reducible apply OwJ.alloc) | (with_reducible refine OwR.call RJ.stay ?_ hb6) | (with_reducible refine OwJ.grownB ?_ hg8 hne) | (with_reducible refine OwR.call RJ.stay ?_ hb7)))
                · (refine bel_out ?_; (focus (repeat' first | (with_reducible refine bel_refl ?_) | with_reducible assumption | with_reducible refine bel_drew ?_ | with_reducible refine bel_drewN _ ?_ | with_reducible refine bel_alloc _ ?_ | with_reducible refine bel_set ?_ _ ?_ | (with_reducible apply bel_call; with_reducible assumption) | (with_reducible apply bel_owg; with_reducible assumption; (focus omega)) | with_reducible exact Nat.le_refl _ | omega | (simp; done) | (simp; omega))))
          · have hrd : decide (a < 0) = false := decide_eq_false hr0
            obtain ⟨i, rfl⟩ := Int.eq_ofNat_of_zero_le (by omega : 0 ≤ a)
            rw [← HEI.out, if_pos (by omega)] at HTK
            have HSS := Lib.hid (HS.out i (by rw [HTK.out]; simp))
            have hin : i < n := by rw [HNL.out]; exact hlt.out i (by rw [HTK.out]; simp)
            have hmx : max (i : Int) 0 = (i : Int) := by omega
            clear HTK HN HS hlt HFR HEI
            have z0 : (0 : Int) ≤ (i : Int) := by omega
            have z1 : (i : Int) < (n : Int) := by omega
            obtain ⟨b, off, rfl, hb, hc⟩ := HO.out (by omega)
            obtain ⟨x1, x2, x3, x4⟩ := hc i hin
            have c1 := (hb0.cell (p := ⟨b, off + i * 4, none⟩) hb).trans x1
            have c2 := (hb0.cell (p := ⟨b, off + i * 4 + 1, none⟩) hb).trans x2
            have c3 := (hb0.cell (p := ⟨b, off + i * 4 + 2, none⟩) hb).trans x3
            have c4 := (hb0.cell (p := ⟨b, off + i * 4 + 3, none⟩) hb).trans x4
            clear hc x1 x2 x3 x4 HO HO2
            generalize L.getD i jb0 = jj at *
            obtain ⟨st, us, sp, nm⟩ := jj
            simp only [] at c1 c2 c3 c4
            go_wp2_with fail
            have kh9 : (wr.alloc (.cells #[.int .i64 st, .string us, .int .i64 sp, .string nm] 28)).heap[w.heap.size]? = some (.cells #[.slice (some ⟨b, off, none⟩) n c, .slice B k d] 24 (0, 0)) := heap_old khq
            have kh9r : (wr.alloc (.cells #[.int .i64 st, .string us, .int .i64 sp, .string nm] 28)).heap[w.heap.size + 1]? = some (.cells #[.slice none 0 0, .slice none 0 0] 24 (0, 0)) := heap_old khr
            have kh9j : (wr.alloc (.cells #[.int .i64 st, .string us, .int .i64 sp, .string nm] 28)).heap[w.heap.size + 2]? = some (.cells #[.int .i64 0, .string ⟨#[]⟩, .int .i64 0, .string ⟨#[]⟩] 28 (0, 0)) := heap_old khj
            have kh9t : (wr.alloc (.cells #[.int .i64 st, .string us, .int .i64 sp, .string nm] 28)).heap[wr.heap.size]? = some (.cells #[.int .i64 st, .string us, .int .i64 sp, .string nm] 28 (0, 0)) := heap_new rfl
            have hb9 : Below w.heap.size w (wr.alloc (.cells #[.int .i64 st, .string us, .int .i64 sp, .string nm] 28)) := hb0.alloc hb0z _
            have hz9 : wr.heap.size < (wr.alloc (.cells #[.int .i64 st, .string us, .int .i64 sp, .string nm] 28)).heap.size := by rw [size_alloc_]; omega
            have hg9 : w.heap.size + 3 ≤ wr.heap.size := by omega
            generalize wr.alloc (.cells #[.int .i64 st, .string us, .int .i64 sp, .string nm] 28) = w9 at kh9 kh9r kh9j kh9t hb9 hz9 ⊢
            generalize wr.heap.size = g9 at kh9t hz9 hg9 ⊢
            have hz9w : w.heap.size ≤ w9.heap.size := by omega
            have HK : Hid (∀ W : World, Bel w9.heap.size w9 W → W.cell? ⟨w.heap.size, 0, none⟩ = some (.slice (some ⟨b, off, none⟩) n c) ∧ W.cell? ⟨w.heap.size, 1, none⟩ = some (.slice B k d) ∧ W.cell? ⟨g9, 0, none⟩ = some (.int .i64 st) ∧ W.cell? ⟨g9, 1, none⟩ = some (.string us) ∧ W.cell? ⟨g9, 2, none⟩ = some (.int .i64 sp) ∧ W.cell? ⟨g9, 3, none⟩ = some (.string nm)) := Lib.hid fun W hW => by
              have h1 := heap_call hW.2 kh9
              have h2 := heap_call hW.2 kh9t
              exact ⟨Blk.cell h1 0, Blk.cell h1 1, Blk.cell h2 0, Blk.cell h2 1, Blk.cell h2 2, Blk.cell h2 3⟩
            have HK2 : Hid (∀ (W : World) (g i : Nat) (u : Value), (W.cell? ⟨w.heap.size, 0, none⟩ = some (.slice (some ⟨b, off, none⟩) n c) ∧ W.cell? ⟨w.heap.size, 1, none⟩ = some (.slice B k d) ∧ W.cell? ⟨g9, 0, none⟩ = some (.int .i64 st) ∧ W.cell? ⟨g9, 1, none⟩ = some (.string us) ∧ W.cell? ⟨g9, 2, none⟩ = some (.int .i64 sp) ∧ W.cell? ⟨g9, 3, none⟩ = some (.string nm)) → (g = w.heap.size + 1 ∨ g = w.heap.size + 1 + 1) → (W.setCell ⟨g, i, none⟩ u).cell? ⟨w.heap.size, 0, none⟩ = some (.slice (some ⟨b, off, none⟩) n c) ∧ (W.setCell ⟨g, i, none⟩ u).cell? ⟨w.heap.size, 1, none⟩ = some (.slice B k d) ∧ (W.setCell ⟨g, i, none⟩ u).cell? ⟨g9, 0, none⟩ = some (.int .i64 st) ∧ (W.setCell ⟨g, i, none⟩ u).cell? ⟨g9, 1, none⟩ = some (.string us) ∧ (W.setCell ⟨g, i, none⟩ u).cell? ⟨g9, 2, none⟩ = some (.int .i64 sp) ∧ (W.setCell ⟨g, i, none⟩ u).cell? ⟨g9, 3, none⟩ = some (.string nm)) := Lib.hid fun W g i u hW hg => by
              have hn1 : ∀ o : Nat, (⟨w.heap.size, o, none⟩ : Addr) ≠ ⟨g, i, none⟩ := fun o e => by injection e; omega
              have hn2 : ∀ o : Nat, (⟨g9, o, none⟩ : Addr) ≠ ⟨g, i, none⟩ := fun o e => by injection e; omega
              obtain ⟨h1, h2, h3, h4, h5, h6⟩ := hW
              exact ⟨(World.cell?_setCell_other _ _ _ _ (hn1 0).symm).trans h1, (World.cell?_setCell_other _ _ _ _ (hn1 1).symm).trans h2, (World.cell?_setCell_other _ _ _ _ (hn2 0).symm).trans h3, (World.cell?_setCell_other _ _ _ _ (hn2 1).symm).trans h4, (World.cell?_setCell_other _ _ _ _ (hn2 2).symm).trans h5, (World.cell?_setCell_other _ _ _ _ (hn2 3).symm).trans h6⟩
            have HKR : Hid (∀ (W : World) {G : Prop}, Bel w9.heap.size w9 W → ((∀ o, W.cell? ⟨w.heap.size + 1, o, none⟩ = (#[.slice none 0 0, .slice none 0 0] : Array Value)[o]?) → (∀ o, W.frozen? ⟨w.heap.size + 1, o, none⟩ = false) → (∀ o, W.cell? ⟨w.heap.size + 2, o, none⟩ = (#[.int .i64 0, .string ⟨#[]⟩, .int .i64 0, .string ⟨#[]⟩] : Array Value)[o]?) → (∀ o, W.frozen? ⟨w.heap.size + 2, o, none⟩ = false) → G) → G) := Lib.hid fun W G hW hG => by
              have h1 := heap_call hW.2 kh9r
              have h2 := heap_call hW.2 kh9j
              exact hG (Blk.cell h1) (Blk.frozen h1) (Blk.cell h2) (Blk.frozen h2)
            have hlitf := Lib.hid (fun W => RdJ.lit (w := W) (t := 0) ⟨st, us, sp, nm⟩)
            clear kcq kfq khq kcr kfr khr kcj kfj khj c1 c2 c3 c4 hb0 kh9 kh9r kh9j kh9t
            go_region_held3 (fun W => W.cell? ⟨w.heap.size, 0, none⟩ = some (.slice (some ⟨b, off, none⟩) n c) ∧ W.cell? ⟨w.heap.size, 1, none⟩ = some (.slice B k d) ∧ W.cell? ⟨g9, 0, none⟩ = some (.int .i64 st) ∧ W.cell? ⟨g9, 1, none⟩ = some (.string us) ∧ W.cell? ⟨g9, 2, none⟩ = some (.int .i64 sp) ∧ W.cell? ⟨g9, 3, none⟩ = some (.string nm))
              (first | (refine HK.out _ ?_; (focus (repeat' first | (with_reducible refine bel_refl ?_) | with_reducible assumption | with_reducible refine bel_drew ?_ | with_reducible refine bel_drewN _ ?_ | with_reducible refine bel_alloc _ ?_ | with_reducible refine bel_set ?_ _ ?_ | (with_reducible apply bel_call; with_reducible assumption) | (with_reducible apply bel_owg; with_reducible assumption; (focus omega)) | with_reducible exact Nat.le_refl _ | omega | (simp; done) | (simp; omega))); done) | (repeat (first | with_reducible assumption | (with_reducible refine HK2.out _ _ _ _ ?_ (by first | exact .inl rfl | exact .inr rfl)))))
              (first
                | (go_at_call 43; ((with_reducible refine (HCU.out _ i _ ?_ rfl hin).mono ?_); (focus (refine bel_out ?_; (focus (repeat' first | (with_reducible refine bel_refl ?_) | with_reducible assumption | with_reducible refine bel_drew ?_ | with_reducible refine bel_drewN _ ?_ | with_reducible refine bel_alloc _ ?_ | with_reducible refine bel_set ?_ _ ?_ | (with_reducible apply bel_call; with_reducible assumption) | (with_reducible apply bel_owg; with_reducible assumption; (focus omega)) | with_reducible exact Nat.le_refl _ | omega | (simp; done) | (simp; omega))))); rintro e w6 ⟨A6, c6, rfl, ho6, hb6⟩; refine HKR.out w6 ?_ ?_; (focus (focus (repeat' first | (with_reducible refine bel_refl ?_) | with_reducible assumption | with_reducible refine bel_drew ?_ | with_reducible refine bel_drewN _ ?_ | with_reducible refine bel_alloc _ ?_ | with_reducible refine bel_set ?_ _ ?_ | (with_reducible apply bel_call; with_reducible assumption) | (with_reducible apply bel_owg; with_reducible assumption; (focus omega)) | with_reducible exact Nat.le_refl _ | omega | (simp; done) | (simp; omega)))); intro kr1 kr2 kr3 kr4))
                | (refine step_append_r _ rfl (.tmp 68) (.tmp 70) 22 rfl 4 48 w9.heap.size 28 i0 _ RJ.stay (by decide) Tryd.underlying22 hi0 hz0 hz1 hz2 rfl (by omega) A7 k c7 M rfl ?_ _ 1 1 rfl [⟨st, us, sp, nm⟩] [.int .i64 st, .string us, .int .i64 sp, .string nm] ?_ (hlitf.out _) rfl ?_ ?_ ?_ ?_ ?_; (focus (repeat' first | with_reducible assumption | (with_reducible apply OwR.drewX) | (with_reducible apply OwJ.drewN) | (with_reducible apply OwJ.alloc) | (with_reducible apply OwR.call RJ.stay; with_reducible assumption))); (focus (refine Reads.ofBlk (t := 28) (fr := (0, 0)) (cs := #[.int .i64 st, .string us, .int .i64 sp, .string nm]) ?_ rfl; (focus (repeat' first | with_reducible assumption | (with_reducible refine heap_drew ?_) | (with_reducible refine heap_drewN ?_) | (with_reducible refine heap_new ?_; focus (first | rfl | omega | (simp; done))) | (with_reducible refine heap_old ?_) | (with_reducible apply heap_near') | ((with_reducible show Array.setIfInBounds _ _ _ = _); rfl) | (with_reducible refine heap_far ?_ ?_; focus (first | omega | (simp; omega) | (simp; done))) | (with_reducible apply heap_grown; with_reducible assumption; (focus (first | omega | (simp; omega)))) | (with_reducible apply heap_call; with_reducible assumption))))); (focus (simp [Value.oneCell'])); (focus (unfold maxLen; omega)); (focus omega); (focus (refine Below.size (B := w9.heap.size) (w := w9) ?_; (refine bel_out ?_; (focus (repeat' first | (with_reducible refine bel_refl ?_) | with_reducible assumption | with_reducible refine bel_drew ?_ | with_reducible refine bel_drewN _ ?_ | with_reducible refine bel_alloc _ ?_ | with_reducible refine bel_set ?_ _ ?_ | (with_reducible apply bel_call; with_reducible assumption) | (with_reducible apply bel_owg; with_reducible assumption; (focus omega)) | with_reducible exact Nat.le_refl _ | omega | (simp; done) | (simp; omega)))))); intro A8 c8 w8 ho8 hg8; refine HKR.out w8 ?_ ?_; (focus (focus (repeat' first | (with_reducible refine bel_refl ?_) | with_reducible assumption | with_reducible refine bel_drew ?_ | with_reducible refine bel_drewN _ ?_ | with_reducible refine bel_alloc _ ?_ | with_reducible refine bel_set ?_ _ ?_ | (with_reducible apply bel_call; with_reducible assumption) | (with_reducible apply bel_owg; with_reducible assumption; (focus omega)) | with_reducible exact Nat.le_refl _ | omega | (simp; done) | (simp; omega)))); intro kr1 kr2 kr3 kr4)
                | (refine step_append_r _ rfl (.const (.slice none 0 0)) (.tmp 67) 22 rfl 4 48 w9.heap.size 28 i0 _ RJ.stay (by decide) Tryd.underlying22 hi0 hz0 hz1 hz2 rfl (by omega) none 0 0 [] rfl (OwR.nil _ _ _ _ _) B k d rfl M (jcells M) ?_ (fits_jcells _ _) HNM.out (jcells_one _) ?_ ?_ ?_ ?_; (focus (refine RdJ.vals (RdJ.below HRB.out ?_); (refine bel_out ?_; (focus (repeat' first | (with_reducible refine bel_refl ?_) | with_reducible assumption | with_reducible refine bel_drew ?_ | with_reducible refine bel_drewN _ ?_ | with_reducible refine bel_alloc _ ?_ | with_reducible refine bel_set ?_ _ ?_ | (with_reducible apply bel_call; with_reducible assumption) | (with_reducible apply bel_owg; with_reducible assumption; (focus omega)) | with_reducible exact Nat.le_refl _ | omega | (simp; done) | (simp; omega)))))); (focus (unfold maxLen; omega)); (focus omega); (focus (refine Below.size (B := w9.heap.size) (w := w9) ?_; (refine bel_out ?_; (focus (repeat' first | (with_reducible refine bel_refl ?_) | with_reducible assumption | with_reducible refine bel_drew ?_ | with_reducible refine bel_drewN _ ?_ | with_reducible refine bel_alloc _ ?_ | with_reducible refine bel_set ?_ _ ?_ | (with_reducible apply bel_call; with_reducible assumption) | (with_reducible apply bel_owg; with_reducible assumption; (focus omega)) | with_reducible exact Nat.le_refl _ | omega | (simp; done) | (simp; omega)))))); intro A7 c7 w7 ho7 hg7; rw [Nat.zero_add, List.nil_append] at ho7; rw [Nat.zero_add]; (have hb7 := hg7.new)))
            all_goals
              have hne : Ne2 A7 A6 := fun g g1 g2 => by
                have l6 := OwJ.lt ho6 g g2
                have l7 := OwJ.lt ho7 g g1
                have s6 := hb6.size
                have s7 := hb7.size
                rcases hg7.n with e | ⟨q, e, hq⟩
                · rw [g1] at e; cases e
                · have : q = g := by rw [g1] at e; injection e with e; exact e.symm
                  simp only [size_alloc_, size_drew] at l6 l7 s6 s7 hq
                  omega
              have hm6 : OwR RJ 4 w6 (w.heap.size + 3) 28 A6 (n - 1) c6 (L.eraseIdx i) := ho6.mono (Nat.le_trans (show w.heap.size + 3 ≤ w9.heap.size by omega) (Below.size (B := w9.heap.size) (w := w9) (by (refine bel_out ?_; (focus (repeat' first | (with_reducible refine bel_refl ?_) | with_reducible assumption | with_reducible refine bel_drew ?_ | with_reducible refine bel_drewN _ ?_ | with_reducible refine bel_alloc _ ?_ | with_reducible refine bel_set ?_ _ ?_ | (with_reducible apply bel_call; with_reducible assumption) | (with_reducible apply bel_owg; with_reducible assumption; (focus omega)) | with_reducible exact Nat.le_refl _ | omega | (simp; done) | (simp; omega)))))))
              have hm8 : OwR RJ 4 w8 (w.heap.size + 3) 28 A8 (k + 1) c8 (M ++ [⟨st, us, sp, nm⟩]) := ho8.mono (by omega)
              go_wp2
              refine bodyPost_ret (v := .tuple #[.agg #[.slice A6 (n - 1) c6, .slice A8 (k + 1) c8], .agg #[.int .i64 st, .string us, .int .i64 sp, .string nm], .bool true]) ?_ rfl ⟨A6, n - 1, c6, A8, k + 1, c8, ?_, ?_, ?_, ?_⟩
              · simp [results, Tryd.results28, go_sem, kr1, kr3]
              · rw [HSS.out.2.2.1, HSS.out.2.2.2]; rfl
              · rw [HSS.out.1]; refine OwR.rd (base := w.heap.size + 3) (e := 28) ?_; clear ho6 ho7 ho8 hm8; (focus (repeat' first | with_reducible assumption | (with_reducible apply OwR.drewX) | (with_reducible refine OwR.setX ?_ (?hlt : _ < _) _; case hlt => (dsimp only; omega)) | (with_reducible apply OwJ.alloc) | (with_reducible refine OwR.call RJ.stay ?_ hb6) | (with_reducible refine OwJ.grownB ?_ hg8 hne) | (with_reducible refine OwR.call RJ.stay ?_ hb7)))
              · rw [HSS.out.2.1]; refine OwR.rd (base := w.heap.size + 3) (e := 28) ?_; clear ho6 ho7 ho8 hm6; (focus (repeat' first | with_reducible assumption | (with_reducible apply OwR.drewX) | (with_reducible refine OwR.setX ?_ (?hlt : _ < _) _; case hlt => (dsimp only; omega)) | (with_reducible apply OwJ.alloc) | (with_reducible refine OwR.call RJ.stay ?_ hb6) | (with_reducible refine OwJ.grownB ?_ hg8 hne) | (with_reducible refine OwR.call RJ.stay ?_ hb7)))
              · (refine bel_out ?_; (focus (repeat' first | (with_reducible refine bel_refl ?_) | with_reducible assumption | with_reducible refine bel_drew ?_ | with_reducible refine bel_drewN _ ?_ | with_reducible refine bel_alloc _ ?_ | with_reducible refine bel_set ?_ _ ?_ | (with_reducible apply bel_call; with_reducible assumption) | (with_reducible apply bel_owg; with_reducible assumption; (focus omega)) | with_reducible exact Nat.le_refl _ | omega | (simp; done) | (simp; omega))))
    | succ k =>
      have hlk : k < n := by omega
      have e1 : ((k + 1 : Nat) : Int) - 1 = (k : Int) := by omega
      rw [e1]
      obtain ⟨b, off, rfl, hb, hc⟩ := HO.out (by omega)
      obtain ⟨x1, x2, x3, x4⟩ := hc k hlk
      have c1 := (hb0.cell (p := ⟨b, off + k * 4, none⟩) hb).trans x1
      have z0 : (0 : Int) ≤ (k : Int) := by omega
      have z1 : (k : Int) < (n : Int) := by omega
      have HE1 := Lib.hid (fun e => EF.hit HE.out (by rw [← HNL.out]; exact hlk) e)
      have HE2 := Lib.hid (fun e => EF.miss HE.out e)
      unfold je at HE1 HE2
      clear hc x1 x2 x3 x4 HO HE e1
      generalize (L.getD k jb0).st = st at *
      by_cases hs : st = 2
      · subst hs
        have HE3 := Lib.hid (HE2.out rfl)
        clear HE1 HE2
        go_wp2_with fail
        go_roundw
        case rel => exact ⟨k, a, by omega, rfl, by go_num, hbw, HE3⟩
        case measure => simp [intOf]
      · have hs2 : (st != 2) = true := by simpa using hs
        have HE3 := Lib.hid (HE1.out (by simpa using hs))
        clear HE1 HE2
        go_wp2_with fail
        go_roundw
        case rel => exact ⟨k, (k : Int), by omega, rfl, by go_num, hbw, HE3⟩
        case measure => simp [intOf]
end Go.Proofs.YtobgnncdldfkkaaDoor
