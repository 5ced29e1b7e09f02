/- The walk of QueueBack. -/
import Derived.Test.YtobgnncdldfkkaaDoorQW
import Derived.Test.YtobgnncdldfkkaaDoorQY
import Derived.Test.YtobgnncdldfkkaaDoorQD
namespace Go.Proofs.YtobgnncdldfkkaaDoor
open Go.RowKit
set_option linter.unusedSimpArgs false
set_option linter.unusedVariables false

/-- what Back makes of what Take has left -/
theorem back_law {L : List Jb} (hn : L.Nodup) {i : Nat} (h : tkAt L [] = some i) : addL (tkW L []) (tkJ L []) = tkW L [] ++ [tkJ L []] ∧ doneL (tkT L []) (tkJ L []) = [] ∧ (tkW L []).length + 1 = L.length := by
  obtain ⟨h1, h2, h3, h4⟩ := tk_some h
  have hi := tkAt_lt h
  rw [h1, h2, h3]
  have hg : L.getD i jb0 = L[i] := by simp [List.getD, List.getElem?_eq_getElem hi]
  have hnot : L[i] ∉ L.eraseIdx i := by
    intro hm
    rw [List.mem_eraseIdx_iff_getElem] at hm
    obtain ⟨k, hk, hne, e⟩ := hm
    exact hne ((List.getElem_inj hn).1 e)
  refine ⟨?_, ?_, ?_⟩
  · unfold addL
    rw [hg, if_neg hnot]
  · have : jIdx (L.getD i jb0) ([] ++ [L.getD i jb0]) = 0 := by
      unfold jIdx fIdx
      simp
    unfold doneL
    rw [this]
    simp
  · rw [List.length_eraseIdx_of_lt hi]
    omega
theorem take_none {L : List Jb} (h : tkAt L [] = none) : L = [] := by
  unfold tkAt at h
  split at h
  · cases h
  · split at h
    · rename_i hh
      rcases hh with hh | hh
      · exact hh
      · simp at hh
    · cases h
theorem JbD.last (X : List Jb) (j : Jb) : (X ++ [j]).getD X.length jb0 = j := by simp [List.getD]

set_option maxRecDepth 100000 in
set_option maxHeartbeats 16000000 in
theorem queueback_walk (A2 : Option Addr) (n2 c2 : Nat) (zs : List Int) (x : Int) (w : World) (hr : RdN w A2 n2 c2 zs) (hx : Hm x w) :
    Calls Tryd.prog 8 #[.slice A2 n2 c2] w fun e w' => e = .returned (.bool true) ∧ Below w.heap.size w w' := by
  have HAW := Lib.hid fun (W : World) (hW : Below w.heap.size w W) => awake_any x W (hx.below hW)
  have HX := Lib.hid fun (W : World) (hW : Below w.heap.size w W) => hx.below hW
  have HM := Lib.hid (made_any A2 n2 c2 zs w hr)
  clear hr hx
  go_enter Tryd.func8, Tryd.ntmps8
  go_wp2_with fail
  go_at_call 15
  refine HM.out.mono ?_
  rintro e w1 ⟨L, M, A, n, c, B, m, d, rfl, hL1, hM1, hLj, hMj, hnd, hl1, hl2, hb1⟩
  have hn : n ≤ 11 := by have := hL1.len; omega
  have HT := Lib.hid fun (W : World) (hW : Below w1.heap.size w1 W) => take_any A n c L none 0 0 [] x W (RdJ.below hL1 hW) (RdR.nil _ _ _) (HX.out W (below_call hb1 hW)) (by omega) (by omega)
  have HL := Lib.hid hL1.len
  go_wp2_with fail
  have hal : Below w1.heap.size w1 (w1.alloc (.cells #[.slice A n c, .slice none 0 0] 24)) := (Below.refl _ _).alloc (Nat.le_refl _) _
  have k3 : (w1.alloc (.cells #[.slice A n c, .slice none 0 0] 24)).heap[w1.heap.size]? = some (.cells #[.slice A n c, .slice none 0 0] 24 (0, 0)) := heap_new rfl
  have HT2 := Lib.hid (HT.out _ hal)
  have hb2 := below_call hb1 hal
  generalize w1.alloc (.cells #[.slice A n c, .slice none 0 0] 24) = w2 at k3 HT2 hb2 ⊢
  generalize w1.heap.size = g3 at k3 ⊢
  clear HT hal hL1 hM1 hb1 HM
  have HT := HT2.out
  clear HT2
  cases htk : tkAt L [] with
  | none =>
    obtain ⟨e1, e2, e3, e4⟩ := tk_none htk
    have hL0 := take_none htk
    rw [e1, e2, e3, e4] at HT
    have hn0 : n = 0 := by rw [HL.out, hL0]; rfl
    clear e1 e2 e3 e4 htk
    subst hn0
    unfold RTk at HT
    have hv : jb0.val = .agg #[.int .i64 0, .string ⟨#[]⟩, .int .i64 0, .string ⟨#[]⟩] := rfl
    rw [hv] at HT
    refine HT.mono ?_
    rintro e w3 ⟨A4, n4, c4, B4, m4, d4, rfl, -, -, hb3⟩
    have k33 := heap_call hb3 k3
    have hb03 := below_call hb2 hb3
    have kc := Blk.cell k33
    have kl := Blk.lt k33
    clear HT k3 hb2 hb3
    go_wp2_with fail
    go_at_call 11
    refine (HAW.out _ ?_).mono ?_
    · (refine bel_out ?_; (focus (repeat' first | (with_reducible refine bel_refl ?_) | with_reducible assumption | with_reducible refine bel_drew ?_ | with_reducible refine bel_drewN _ ?_ | with_reducible refine bel_alloc _ ?_ | with_reducible refine bel_set ?_ _ ?_ | (with_reducible apply bel_call; with_reducible assumption) | (with_reducible apply bel_owg; with_reducible assumption; (focus omega)) | with_reducible exact Nat.le_refl _ | omega | (simp; done) | (simp; omega))))
    rintro e w4 ⟨rfl, hb4⟩
    have hal : Below w3.heap.size w3 ((w3.alloc (.cells #[.slice A4 n4 c4, .slice B4 m4 d4] 24)).alloc (.cells #[.int .i64 0, .string ⟨#[]⟩, .int .i64 0, .string ⟨#[]⟩] 28)) := ((Below.refl _ _).alloc (Nat.le_refl _) _).alloc (by rw [size_alloc_]; omega) _
    have k34 := heap_call hb4 (heap_call hal k33)
    have kc4 := Blk.cell k34
    have hb04 := below_call (below_call hb03 hal) hb4
    clear hb4 hb03 hal k33 kc kl k34
    go_wp2_with fail
    go_ret
    exact ⟨by rfl, hb04⟩
  | some i =>
    obtain ⟨e1, e2, e3⟩ := back_law hnd htk
    obtain ⟨-, -, -, e4⟩ := tk_some htk
    rw [e4] at HT
    clear htk e4
    have hlen : (tkW L []).length + 1 = n := by rw [e3, ← HL.out]
    have hTl := tkT_length L []
    generalize tkW L [] = lW at *
    generalize tkT L [] = lT at *
    generalize tkJ L [] = j at *
    have hBK : Hid (∀ (W : World) (A : Option Addr) (n c : Nat) (B : Option Addr) (m d : Nat), RdR RJ 4 W A n c lW → RdR RJ 4 W B m d lT → Calls Tryd.prog 21 #[.agg #[.slice A n c, .slice B m d], j.val] W (RRdQ W (lW ++ [j]) [])) := Lib.hid fun W A n' c B m d h1 h2 => by
      have := back_any A n' c lW B m d lT j W h1 h2 (by rw [h1.len]; omega) (by rw [h2.len]; simp at hTl; omega)
      rw [e1, e2] at this
      exact this
    obtain ⟨k, hkl⟩ : ∃ k, lW.length = k := ⟨_, rfl⟩
    have hkn : k + 1 = n := by omega
    have hlast := JbD.last lW j
    rw [hkl] at hlast
    have htk : (lW ++ [j]).take k = lW := by rw [← hkl]; simp
    obtain ⟨st, us, sp, nm⟩ := j
    unfold RTk at HT
    unfold Jb.val at HT hBK
    simp only [] at HT hBK
    refine HT.mono ?_
    rintro e w3 ⟨A4, n4, c4, B4, m4, d4, rfl, hL4, hM4, hb3⟩
    have k33 := heap_call hb3 k3
    have hb03 := below_call hb2 hb3
    clear HT k3 hb2 hb3
    go_wp2_with fail
    have hal : Below w3.heap.size w3 ((w3.alloc (.cells #[.slice A4 n4 c4, .slice B4 m4 d4] 24)).alloc (.cells #[.int .i64 st, .string us, .int .i64 sp, .string nm] 28)) := ((Below.refl _ _).alloc (Nat.le_refl _) _).alloc (by rw [size_alloc_]; omega) _
    have k4 : ((w3.alloc (.cells #[.slice A4 n4 c4, .slice B4 m4 d4] 24)).alloc (.cells #[.int .i64 st, .string us, .int .i64 sp, .string nm] 28)).heap[w3.heap.size]? = some (.cells #[.slice A4 n4 c4, .slice B4 m4 d4] 24 (0, 0)) := heap_old (heap_new rfl)
    have k5 : ((w3.alloc (.cells #[.slice A4 n4 c4, .slice B4 m4 d4] 24)).alloc (.cells #[.int .i64 st, .string us, .int .i64 sp, .string nm] 28)).heap[w3.heap.size + 1]? = some (.cells #[.int .i64 st, .string us, .int .i64 sp, .string nm] 28 (0, 0)) := heap_new (by rw [size_alloc_])
    have k34 := heap_call hal k33
    have hL4' := RdJ.below hL4 hal
    have hM4' := RdJ.below hM4 hal
    have hb04 := below_call hb03 hal
    generalize (w3.alloc (.cells #[.slice A4 n4 c4, .slice B4 m4 d4] 24)).alloc (.cells #[.int .i64 st, .string us, .int .i64 sp, .string nm] 28) = w4 at k4 k5 k34 hL4' hM4' hb04 ⊢
    generalize w3.heap.size = g4 at k4 k5 ⊢
    clear hal k33 hL4 hM4 hb03
    refine (hBK.out _ _ _ _ _ _ _ hL4' hM4').mono ?_
    rintro e w5 ⟨A6, n6, c6, B6, m6, d6, rfl, hL6, hM6, hb5⟩
    have hn6 : n6 = n := by have := hL6.len; rw [List.length_append] at this; simp at this; omega
    have hm6 : m6 = 0 := hM6.len
    subst hn6 hm6
    have k35 := heap_call hb5 k34
    have k45 := heap_call hb5 k4
    have k55 := heap_call hb5 k5
    have hL45 := RdJ.below hL4' hb5
    have hb05 := below_call hb04 hb5
    clear k34 k4 k5 hL4' hM4' hb04 hb5 hBK
    go_wp2_with fail
    have hal : Below w5.heap.size w5 (w5.alloc (.cells #[.slice A6 n6 c6, .slice B6 0 d6] 24)) := (Below.refl _ _).alloc (Nat.le_refl _) _
    have k6 : (w5.alloc (.cells #[.slice A6 n6 c6, .slice B6 0 d6] 24)).heap[w5.heap.size]? = some (.cells #[.slice A6 n6 c6, .slice B6 0 d6] 24 (0, 0)) := heap_new rfl
    have k36 := heap_call hal k35
    have k46 := heap_call hal k45
    have k56 := heap_call hal k55
    have hL46 := RdJ.below hL45 hal
    have hL66 := RdJ.below hL6 hal
    have hb06 := below_call hb05 hal
    generalize w5.alloc (.cells #[.slice A6 n6 c6, .slice B6 0 d6] 24) = w6 at k6 k36 k46 k56 hL46 hL66 hb06 ⊢
    generalize w5.heap.size = g6 at k6 ⊢
    clear hal k35 k45 k55 hL45 hL6 hM6 hb05
    obtain ⟨hcut, hRc⟩ := RdJ.cutH hL66 (k : Int) k rfl (by omega)
    rw [htk] at hRc
    have HSM : Hid (∀ W, Below w6.heap.size w6 W → Calls Tryd.prog 24 #[.slice A6 k c6, .slice A4 n4 c4] W fun e w' => e = .returned (.bool true) ∧ Below W.heap.size W w') := Lib.hid fun W hW => by
      have := same_job A6 k c6 lW A4 n4 c4 lW W (RdJ.below hRc hW) (RdJ.below hL46 hW)
      simpa using this
    obtain ⟨b, off, e6, hb, hc⟩ := RdJ.opened hL66 (by omega)
    subst e6
    obtain ⟨x1, x2, x3, x4⟩ := hc k (by omega)
    rw [hlast] at x1 x2 x3 x4
    simp only [] at x1 x2 x3 x4
    have HK : Hid (∀ W : World, Bel w6.heap.size w6 W → W.cell? ⟨g3, 0, none⟩ = some (.slice A n6 c) ∧ W.cell? ⟨g4, 0, none⟩ = some (.slice A4 n4 c4) ∧ W.cell? ⟨g4 + 1, 0, none⟩ = some (.int .i64 st) ∧ W.cell? ⟨g4 + 1, 1, none⟩ = some (.string us) ∧ W.cell? ⟨g4 + 1, 2, none⟩ = some (.int .i64 sp) ∧ W.cell? ⟨g4 + 1, 3, none⟩ = some (.string nm) ∧ W.cell? ⟨g6, 0, none⟩ = some (.slice (some ⟨b, off, none⟩) n6 c6) ∧ W.cell? ⟨g6, 1, none⟩ = some (.slice B6 0 d6) ∧ W.cell? ⟨b, off + k * 4, none⟩ = some (.int .i64 st) ∧ W.cell? ⟨b, off + k * 4 + 1, none⟩ = some (.string us) ∧ W.cell? ⟨b, off + k * 4 + 2, none⟩ = some (.int .i64 sp) ∧ W.cell? ⟨b, off + k * 4 + 3, none⟩ = some (.string nm)) := Lib.hid fun W hW => by
      have h3 := heap_call hW.2 k36
      have h4 := heap_call hW.2 k46
      have h5 := heap_call hW.2 k56
      have h6 := heap_call hW.2 k6
      exact ⟨Blk.cell h3 0, Blk.cell h4 0, Blk.cell h5 0, Blk.cell h5 1, Blk.cell h5 2, Blk.cell h5 3, Blk.cell h6 0, Blk.cell h6 1, (hW.2.cell hb).trans x1, (hW.2.cell hb).trans x2, (hW.2.cell hb).trans x3, (hW.2.cell hb).trans x4⟩
    have hq := fun W => run_eq_job st us sp nm st us sp nm W
    rw [decide_eq_true rfl] at hq
    have hgt := job_guard
    have hmk : (n6 : Int) - 1 = (k : Int) := by omega
    have z0 : (0 : Int) ≤ (k : Int) := by omega
    have z1 : (k : Int) < (n6 : Int) := by omega
    have z2 : (0 : Int) < (n6 : Int) := by omega
    have z3 : IntKind.i64.wrap ((n6 : Int) - 1) = (k : Int) := by rw [IntKind.wrap_i64]; omega
    have z5 : (n6 : Int) ≤ 11 := by omega
    have z6 : (k : Int) ≤ 11 := by omega
    have z7 : (1 : Int) ≤ (n6 : Int) := by omega
    have z8 : IntKind.i64.wrap (k : Int) = (k : Int) := by rw [IntKind.wrap_i64]; omega
    have z2n : 0 < n6 := by omega
    have z2d : decide (0 < n6) = true := decide_eq_true z2n
    have z2e : decide ((0 : Int) < (n6 : Int)) = true := decide_eq_true z2
    clear hc x1 x2 x3 x4 k36 k46 k56 k6 hL46 hL66 hRc hkn hkl htk hlast hlen e1 e2 e3 hl1 hnd hLj hn
    go_wp2_with fail
    go_region_held3 (fun W => W.cell? ⟨g3, 0, none⟩ = some (.slice A n6 c) ∧ W.cell? ⟨g4, 0, none⟩ = some (.slice A4 n4 c4) ∧ W.cell? ⟨g4 + 1, 0, none⟩ = some (.int .i64 st) ∧ W.cell? ⟨g4 + 1, 1, none⟩ = some (.string us) ∧ W.cell? ⟨g4 + 1, 2, none⟩ = some (.int .i64 sp) ∧ W.cell? ⟨g4 + 1, 3, none⟩ = some (.string nm) ∧ W.cell? ⟨g6, 0, none⟩ = some (.slice (some ⟨b, off, none⟩) n6 c6) ∧ W.cell? ⟨g6, 1, none⟩ = some (.slice B6 0 d6) ∧ W.cell? ⟨b, off + k * 4, none⟩ = some (.int .i64 st) ∧ W.cell? ⟨b, off + k * 4 + 1, none⟩ = some (.string us) ∧ W.cell? ⟨b, off + k * 4 + 2, none⟩ = some (.int .i64 sp) ∧ W.cell? ⟨b, off + k * 4 + 3, none⟩ = some (.string nm))
      ((refine HK.out _ ?_; (focus (repeat' first | (with_reducible refine bel_refl ?_) | with_reducible assumption | with_reducible refine bel_drew ?_ | with_reducible refine bel_drewN _ ?_ | with_reducible refine bel_alloc _ ?_ | with_reducible refine bel_set ?_ _ ?_ | (with_reducible apply bel_call; with_reducible assumption) | (with_reducible apply bel_owg; with_reducible assumption; (focus omega)) | with_reducible exact Nat.le_refl _ | omega | (simp; done) | (simp; omega))); done))
      (first
        | (go_at_call 11; ((with_reducible refine (HAW.out _ ?_).mono ?_); (focus (refine bel_out ?_; (focus (repeat' first | (with_reducible refine bel_refl ?_) | with_reducible assumption | with_reducible refine bel_drew ?_ | with_reducible refine bel_drewN _ ?_ | with_reducible refine bel_alloc _ ?_ | with_reducible refine bel_set ?_ _ ?_ | (with_reducible apply bel_call; with_reducible assumption) | (with_reducible apply bel_owg; with_reducible assumption; (focus omega)) | with_reducible exact Nat.le_refl _ | omega | (simp; done) | (simp; omega))))); rintro e v1 ⟨rfl, hv1⟩))
        | (go_at_call 24; ((with_reducible refine (HSM.out _ ?_).mono ?_); (focus (refine bel_out ?_; (focus (repeat' first | (with_reducible refine bel_refl ?_) | with_reducible assumption | with_reducible refine bel_drew ?_ | with_reducible refine bel_drewN _ ?_ | with_reducible refine bel_alloc _ ?_ | with_reducible refine bel_set ?_ _ ?_ | (with_reducible apply bel_call; with_reducible assumption) | (with_reducible apply bel_owg; with_reducible assumption; (focus omega)) | with_reducible exact Nat.le_refl _ | omega | (simp; done) | (simp; omega))))); rintro e v2 ⟨rfl, hv2⟩)))
    all_goals
      go_wp2
      go_ret
      exact ⟨by rfl, by (refine bel_out ?_; (focus (repeat' first | (with_reducible refine bel_refl ?_) | with_reducible assumption | with_reducible refine bel_drew ?_ | with_reducible refine bel_drewN _ ?_ | with_reducible refine bel_alloc _ ?_ | with_reducible refine bel_set ?_ _ ?_ | (with_reducible apply bel_call; with_reducible assumption) | (with_reducible apply bel_owg; with_reducible assumption; (focus omega)) | with_reducible exact Nat.le_refl _ | omega | (simp; done) | (simp; omega))))⟩
end Go.Proofs.YtobgnncdldfkkaaDoor
