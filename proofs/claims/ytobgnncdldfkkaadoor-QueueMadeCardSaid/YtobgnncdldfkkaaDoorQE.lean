/- Rows of jobs as flat cells; slices.Clone at jobs; own. -/
import Derived.Test.YtobgnncdldfkkaaDoorQP2
import Derived.Laws.OwnMore
namespace Go.Proofs.YtobgnncdldfkkaaDoor
open Go.RowKit
set_option linter.unusedSimpArgs false
set_option linter.unusedVariables false

theorem job_info2 : (Tryd.prog.info? 28).map (fun i => (i.zero, i.size, i.bytes)) = some (some jb0.val, 4, 48) := by kernel_rfl
def jcells (L : List Jb) : List Value := L.flatMap Jb.cells
theorem jcells_length : ∀ L : List Jb, (jcells L).length = L.length * 4
  | [] => rfl
  | a :: r => by
    have := jcells_length r
    simp only [jcells, List.flatMap_cons, List.length_append, List.length_cons] at this ⊢
    rw [this]
    show 4 + _ = _
    omega
theorem jcells_append (L M : List Jb) : jcells (L ++ M) = jcells L ++ jcells M := by simp [jcells]
theorem jcells_drop : ∀ (k : Nat) (L : List Jb), (jcells L).drop (k * 4) = jcells (L.drop k)
  | 0, L => by simp
  | k + 1, [] => by simp [jcells]
  | k + 1, a :: r => by
    have h := jcells_drop k r
    have e : jcells (a :: r) = a.cells ++ jcells r := by simp [jcells]
    rw [e, List.drop_succ_cons, ← h, List.drop_append]
    have e2 : a.cells.length = 4 := rfl
    rw [List.drop_of_length_le (by rw [e2]; omega), e2, List.nil_append]
    congr 1
    omega
theorem jcells_take : ∀ (k : Nat) (L : List Jb), (jcells L).take (k * 4) = jcells (L.take k)
  | 0, L => by simp [jcells]
  | k + 1, [] => by simp [jcells]
  | k + 1, a :: r => by
    have h := jcells_take k r
    have e : jcells (a :: r) = a.cells ++ jcells r := by simp [jcells]
    rw [e, List.take_succ_cons, show jcells (a :: r.take k) = a.cells ++ jcells (r.take k) by simp [jcells], ← h, List.take_append]
    have e2 : a.cells.length = 4 := rfl
    rw [List.take_of_length_le (by rw [e2]; omega), e2]
    congr 2
    omega
theorem jcells_one (L : List Jb) : ∀ u ∈ jcells L, u.oneCell' = true := by
  intro u hu
  obtain ⟨a, _, h⟩ := List.mem_flatMap.1 hu
  simp [Jb.cells] at h
  rcases h with rfl | rfl | rfl | rfl <;> rfl
theorem fits_jcells (w : World) (L : List Jb) : Fits RJ 4 w L (jcells L) := by
  intro k a hk
  show _ = a.cells
  obtain ⟨hlt, e⟩ := List.getElem?_eq_some_iff.1 hk
  rw [jcells_drop, List.drop_eq_getElem_cons hlt, e]
  show (a.cells ++ jcells (L.drop (k + 1))).take 4 = _
  rw [List.take_append_of_le_length (by show 4 ≤ 4; omega)]
  rfl
theorem Fits.jcells {w : World} : ∀ {L : List Jb} {xs : List Value}, Fits RJ 4 w L xs → xs.length = L.length * 4 → xs = jcells L
  | [], xs, _, hl => by
    have : xs = [] := List.length_eq_zero_iff.1 (by simpa using hl)
    rw [this]; rfl
  | a :: r, xs, h, hl => by
    have h0 : xs.take 4 = a.cells := by simpa using (show ((xs.drop (0 * 4)).take 4) = a.cells from h 0 a rfl)
    have h1 : Fits RJ 4 w r (xs.drop 4) := by
      intro k b hk
      have := h (k + 1) b (by simpa using hk)
      rw [List.drop_drop]
      rw [show (k + 1) * 4 = 4 + k * 4 by omega] at this
      exact this
    have h2 := Fits.jcells h1 (by rw [List.length_drop, hl, List.length_cons]; omega)
    have h3 := List.take_append_drop 4 xs
    rw [h0, h2] at h3
    rw [← h3]
    simp [Go.Proofs.YtobgnncdldfkkaaDoor.jcells]
theorem OwJ.vals {w : World} {base e n c : Nat} {A : Option Addr} {L : List Jb} (h : OwR RJ 4 w base e A n c L) : w.ownsRow base e 4 (.slice A n c) n (jcells L) := by
  obtain ⟨xs, h1, h2⟩ := h.own
  have : xs = jcells L := Fits.jcells h2 (by rw [h1.1, h.len])
  rw [← this]
  exact h1
theorem OwJ.of_vals {w : World} {base e n : Nat} {v : Value} {L : List Jb} (h : w.ownsRow base e 4 v n (jcells L)) : ∃ A c, v = .slice A n c ∧ OwR RJ 4 w base e A n c L := by
  obtain ⟨A, c, rfl, h1, h2⟩ := own_shape h
  refine ⟨A, c, rfl, ⟨by have := h.1; rw [jcells_length] at this; omega, h1, h2, _, h, fits_jcells w L⟩⟩
theorem RdJ.vals {w : World} {A : Option Addr} {n c : Nat} {L : List Jb} (h : RdR RJ 4 w A n c L) : Reads w w.heap.size 4 A n (jcells L) := by
  obtain ⟨xs, h1, h2⟩ := h.reads
  have : xs = jcells L := Fits.jcells h2 (by rw [h1.1, h.len])
  rw [← this]
  exact h1
theorem RdJ.of_vals {w : World} {A : Option Addr} {n c : Nat} {L : List Jb} (hl : n = L.length) (hc : n ≤ c) (hm : c ≤ maxLen) (h : Reads w w.heap.size 4 A n (jcells L)) : RdR RJ 4 w A n c L :=
  ⟨hl, hc, hm, _, h, fits_jcells w L⟩
theorem OwJ.made0 {w : World} {base e : Nat} (hb : base ≤ w.heap.size) : OwR RJ 4 (w.alloc (.cells #[] e)) base e (some ⟨w.heap.size, 0, none⟩) 0 0 [] :=
  ⟨rfl, Nat.le_refl _, by unfold maxLen; omega, [], World.ownsRow_made w #[] 0 hb (by unfold maxLen; omega) rfl, fun k a h => by simp at h⟩
theorem OwJ.lt {w : World} {base e n c : Nat} {A : Option Addr} {L : List Jb} (h : OwR RJ 4 w base e A n c L) (g : Nat) (hg : A.map (·.block) = some g) : base ≤ g ∧ g < w.heap.size := by
  rcases (OwJ.vals h).2 with ⟨e1, e2⟩ | ⟨g', cap, cur, e1, e2, e3, _⟩
  · injection e1 with e1; subst e1; simp at hg
  · injection e1 with e1
    subst e1
    have : g' = g := by simpa using hg
    subst this
    exact ⟨e2, Blk.lt e3⟩
theorem nil_none {w : World} {n c : Nat} {L : List Jb} (h : RdR RJ 4 w none n c L) : n = 0 ∧ L = [] := by
  rcases Nat.eq_zero_or_pos n with h0 | h0
  · exact ⟨h0, List.length_eq_zero_iff.1 (by rw [← h.len]; exact h0)⟩
  · obtain ⟨b, off, e, _⟩ := RdJ.opened h h0
    cases e
/-- two blocks apart -/
def Ne2 (A A' : Option Addr) : Prop := ∀ b, A.map (·.block) = some b → A'.map (·.block) ≠ some b
theorem Ne2.symm {A A' : Option Addr} (h : Ne2 A A') : Ne2 A' A := fun b h1 h2 => h b h2 h1
theorem Ne2.none_ (A : Option Addr) : Ne2 none A := fun b h => by simp at h

theorem OwJ.kept {w w' : World} {base e n c : Nat} {A : Option Addr} {L : List Jb} (h : OwR RJ 4 w base e A n c L) (hk : ∀ g, A.map (·.block) = some g → w'.heap[g]? = w.heap[g]?) : OwR RJ 4 w' base e A n c L := by
  obtain ⟨xs, h1, h2⟩ := h.own
  refine ⟨h.len, h.cap, h.max, xs, ⟨h1.1, h1.2.imp id fun ⟨g, cap, cur, a1, a2, a3, r⟩ => ⟨g, cap, cur, a1, a2, (hk g ?_).trans a3, r⟩⟩, h2⟩
  injection a1 with a1
  rw [a1]
  rfl
theorem OwJ.set2 {w : World} {base base' e n c g : Nat} {A : Option Addr} {L : List Jb} {cs : Array Value} {t : Nat} (h : OwR RJ 4 w base e A n c L) (hh : w.heap[g]? = some (.cells cs t (0, 0))) (hb : base' ≤ base) (hg : g < base) (i j : Nat) (u v : Value) : OwR RJ 4 ((w.setCell ⟨g, i, none⟩ u).setCell ⟨g, j, none⟩ v) base' e A n c L := by
  refine OwJ.kept (h.mono hb) fun g' hg' => ?_
  have hne : g' ≠ g := by have := (OwJ.lt h g' hg').1; omega
  rw [heap_set_far _ _ _ _ _ hne, heap_set_far _ _ _ _ _ hne]
/-- a row of jobs of the call's own -/
def RNewJ (w : World) (n : Nat) (L : List Jb) (e : Ending) (w' : World) : Prop := ∃ A c, e = .returned (.slice A n c) ∧ OwR RJ 4 w' w.heap.size 28 A n c L ∧ Below w.heap.size w w'

set_option maxRecDepth 100000 in
set_option maxHeartbeats 4000000 in
theorem clone_job (A : Option Addr) (n c : Nat) (L : List Jb) (w : World) (h : RdR RJ 4 w A n c L) (hn : n ≤ 100000) :
    Calls Tryd.prog 46 #[.slice A n c] w (RNewJ w n L) := by
  have hq : ∀ (w : World) (a : Option Addr) (n c n' c' : Nat), (binOp .eql 22 (.slice a n c) (.slice none n' c')).run Tryd.prog w = .ok (.bool a.isNone) w := fun w a n c n' c' => Lib.run_eql_slice_nil w _ _ a n c n' c' Tryd.underlying22
  cases A with
  | none =>
    obtain ⟨rfl, rfl⟩ := nil_none h
    go_enter Tryd.func46, Tryd.ntmps46
    go_wp2
    go_ret
    exact ⟨none, 0, rfl, OwR.nil _ _ _ _ _, Below.refl _ _⟩
  | some a =>
    obtain ⟨i0, hi0, hz0, hz1, hz2⟩ := info_parts job_info2
    have hlen := Lib.hid h.len
    have hr := RdJ.vals h
    clear h
    go_enter Tryd.func46, Tryd.ntmps46
    go_wp2_with (first
      | (at_builtin; go_must (refine wpList_append_r _ rfl (.tmp 5) (.tmp 6) 22 rfl 4 48 w.heap.size 28 i0 _ RJ.stay (by decide) Tryd.underlying22 hi0 hz0 hz1 hz2 rfl (by omega) (some ⟨w.heap.size, 0, none⟩) 0 0 [] rfl (OwJ.made0 (Nat.le_refl _)) (some a) n c rfl L (jcells L) ((hr.below ((Below.refl _ _).alloc (Nat.le_refl _) _)).more (by simp)) (fits_jcells _ L) hlen.out (jcells_one L) ?_ ?_ ?_ ?_; (focus (unfold maxLen; omega)); (focus omega); (focus (simp)); intro A1 c1 w1 ho1 hg1; rw [Nat.zero_add, List.nil_append] at ho1)))
    go_ret
    exact ⟨A1, c1, by simp, ho1, ((Below.refl _ _).alloc (Nat.le_refl _) _).trans hg1.b⟩

/-- a queue of the call's own -/
def RNewQ (w : World) (W T : List Jb) (e : Ending) (w' : World) : Prop := ∃ A n c B m d, e = .returned (.agg #[.slice A n c, .slice B m d]) ∧ OwR RJ 4 w' w.heap.size 28 A n c W ∧ OwR RJ 4 w' w.heap.size 28 B m d T ∧ Ne2 A B ∧ Below w.heap.size w w'

set_option maxRecDepth 100000 in
set_option maxHeartbeats 4000000 in
theorem own_any (A : Option Addr) (n c : Nat) (L : List Jb) (B : Option Addr) (m d : Nat) (M : List Jb) (w : World) (h : RdR RJ 4 w A n c L) (h2 : RdR RJ 4 w B m d M) (hn : n ≤ 100000) (hm : m ≤ 100000) :
    Calls Tryd.prog 37 #[.agg #[.slice A n c, .slice B m d]] w (RNewQ w L M) := by
  have HC1 : Hid (∀ W, Below w.heap.size w W → Calls Tryd.prog 46 #[.slice A n c] W (RNewJ W n L)) := Lib.hid fun W hW => clone_job A n c L W (RdJ.below h hW) hn
  have HC2 : Hid (∀ W, Below w.heap.size w W → Calls Tryd.prog 46 #[.slice B m d] W (RNewJ W m M)) := Lib.hid fun W hW => clone_job B m d M W (RdJ.below h2 hW) hm
  have HK : Hid (∀ W : World, Bel (w.alloc (.cells #[.slice A n c, .slice B m d] 24)).heap.size (w.alloc (.cells #[.slice A n c, .slice B m d] 24)) W → W.cell? ⟨w.heap.size, 0, none⟩ = some (.slice A n c) ∧ W.cell? ⟨w.heap.size, 1, none⟩ = some (.slice B m d)) := Lib.hid fun W hW => by
    have hh : W.heap[w.heap.size]? = some (.cells #[.slice A n c, .slice B m d] 24 (0, 0)) := heap_call hW.2 (heap_new rfl)
    exact ⟨Blk.cell hh 0, Blk.cell hh 1⟩
  clear h h2
  go_enter Tryd.func37, Tryd.ntmps37
  go_wp2_with fail
  go_region_held3 (fun W => W.cell? ⟨w.heap.size, 0, none⟩ = some (.slice A n c) ∧ W.cell? ⟨w.heap.size, 1, none⟩ = some (.slice B m d))
    ((refine HK.out _ ?_; (focus (repeat' first | (with_reducible refine bel_refl ?_) | with_reducible assumption | with_reducible refine bel_drew ?_ | with_reducible refine bel_drewN _ ?_ | with_reducible refine bel_alloc _ ?_ | with_reducible refine bel_set ?_ _ ?_ | (with_reducible apply bel_call; with_reducible assumption) | (with_reducible apply bel_owg; with_reducible assumption; (focus omega)) | with_reducible exact Nat.le_refl _ | omega | (simp; done) | (simp; omega))); done))
    (first
      | (go_at_call 46; ((with_reducible refine (HC1.out _ ?_).mono ?_); (focus (refine bel_out ?_; (focus (repeat' first | (with_reducible refine bel_refl ?_) | with_reducible assumption | with_reducible refine bel_drew ?_ | with_reducible refine bel_drewN _ ?_ | with_reducible refine bel_alloc _ ?_ | with_reducible refine bel_set ?_ _ ?_ | (with_reducible apply bel_call; with_reducible assumption) | (with_reducible apply bel_owg; with_reducible assumption; (focus omega)) | with_reducible exact Nat.le_refl _ | omega | (simp; done) | (simp; omega))))); rintro e w1 ⟨A1, c1, rfl, ho1, hb1⟩))
      | (go_at_call 46; ((with_reducible refine (HC2.out _ ?_).mono ?_); (focus (refine bel_out ?_; (focus (repeat' first | (with_reducible refine bel_refl ?_) | with_reducible assumption | with_reducible refine bel_drew ?_ | with_reducible refine bel_drewN _ ?_ | with_reducible refine bel_alloc _ ?_ | with_reducible refine bel_set ?_ _ ?_ | (with_reducible apply bel_call; with_reducible assumption) | (with_reducible apply bel_owg; with_reducible assumption; (focus omega)) | with_reducible exact Nat.le_refl _ | omega | (simp; done) | (simp; omega))))); rintro e w2 ⟨A2, c2, rfl, ho2, hb2⟩; obtain ⟨kc2, kf2, kz2, kh2⟩ := blk_cells hb2 (g := w.heap.size + 1) (t := 24) (cs := #[.slice none 0 0, .slice none 0 0]) (by (focus (repeat' first | with_reducible assumption | (with_reducible refine heap_drew ?_) | (with_reducible refine heap_drewN ?_) | (with_reducible refine heap_new ?_; focus (first | rfl | omega | (simp; done))) | (with_reducible refine heap_old ?_) | (with_reducible apply heap_near') | ((with_reducible show Array.setIfInBounds _ _ _ = _); rfl) | (with_reducible refine heap_far ?_ ?_; focus (first | omega | (simp; omega) | (simp; done))) | (with_reducible apply heap_grown; with_reducible assumption; (focus (first | omega | (simp; omega)))) | (with_reducible apply heap_call; with_reducible assumption)))))))
  all_goals
    have hz1 := hb1.size
    have hp1 : OwR RJ 4 w2 (w.heap.size + 2) 28 A1 n c1 L := (ho1.call RJ.stay hb2).mono (by simp)
    have hp2 : OwR RJ 4 w2 (w.heap.size + 2) 28 A2 m c2 M := ho2.mono (by simpa using hz1)
    have hne : Ne2 A1 A2 := fun g g1 g2 => by
      have := OwJ.lt ho1 g g1
      have := OwJ.lt ho2 g g2
      omega
    go_wp2
    refine bodyPost_ret (v := .agg #[.slice A1 n c1, .slice A2 m c2]) ?_ rfl ⟨A1, n, c1, A2, m, c2, rfl, OwJ.set2 hp1 kh2 (by omega) (by omega) _ _ _ _, OwJ.set2 hp2 kh2 (by omega) (by omega) _ _ _ _, hne, by (refine bel_out ?_; (focus (repeat' first | (with_reducible refine bel_refl ?_) | with_reducible assumption | with_reducible refine bel_drew ?_ | with_reducible refine bel_drewN _ ?_ | with_reducible refine bel_alloc _ ?_ | with_reducible refine bel_set ?_ _ ?_ | (with_reducible apply bel_call; with_reducible assumption) | (with_reducible apply bel_owg; with_reducible assumption; (focus omega)) | with_reducible exact Nat.le_refl _ | omega | (simp; done) | (simp; omega))))⟩
    simp [results, Tryd.results37, go_sem, kc2]
end Go.Proofs.YtobgnncdldfkkaaDoor
