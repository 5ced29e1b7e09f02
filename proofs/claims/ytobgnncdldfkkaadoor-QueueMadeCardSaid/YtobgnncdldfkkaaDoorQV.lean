/- The walk of Valid: the map of the jobs that have been met. -/
import Derived.Test.YtobgnncdldfkkaaDoorQE
import Derived.Maps.Own
import Derived.Maps.OwnSet
import Derived.Maps.Views
import Derived.DeepKeys4
namespace Go.Proofs.YtobgnncdldfkkaaDoor
open Go.RowKit
set_option linter.unusedSimpArgs false
set_option linter.unusedVariables false

/-- a job is within its types -/
def JWf (a : Jb) : Prop := (Lit.int .i64 a.st).wf = true ∧ a.us.size ≤ maxLen ∧ (Lit.int .i64 a.sp).wf = true ∧ a.nm.size ≤ maxLen
def jkey (a : Jb) : Lit := .string (keyBytes [.int .i64 a.st, .string a.us.data.toList, .int .i64 a.sp, .string a.nm.data.toList])
theorem jlaidOut : laidOutB Tryd.prog = true := by kernel_rfl
theorem job_law : Maps.Keyed Tryd.prog 28 := Maps.Keyed.of_law (deep_law_laid jlaidOut (m := 3) (by omega) (of_decide_eq_true (by kernel_rfl)) (by kernel_rfl) (by rw [Tryd.underlying28]))
theorem job_keyType : Tryd.prog.keyType 28 = true := by kernel_rfl
theorem cells_job : Tryd.prog.cellsOf 28 = 4 := by kernel_rfl
theorem cells_title : Tryd.prog.cellsOf 26 = 2 := by kernel_rfl
theorem cells_int : Tryd.prog.cellsOf 3 = 1 := by kernel_rfl
theorem cells_string : Tryd.prog.cellsOf 9 = 1 := by kernel_rfl
theorem keyLits_job (d : Nat) (a : Jb) (h : JWf a) : Tryd.prog.keyLits (d + 3) 28 a.val.cells.toList = some [.int .i64 a.st, .string a.us.data.toList, .int .i64 a.sp, .string a.nm.data.toList] := by
  obtain ⟨h1, h2, h3, h4⟩ := h
  obtain ⟨st, us, sp, nm⟩ := a
  simp only at h1 h2 h3 h4
  simp [Program.keyLits, Tryd.underlying28, Tryd.underlying26, Tryd.underlying3, Tryd.underlying9, cells_job, cells_title, cells_int, cells_string, Jb.val, Value.cells, h1, h2, h3, h4]
  try rfl
theorem keyOf_job (a : Jb) (h : JWf a) : keyOf Tryd.prog 28 a.val = some (jkey a) := by
  unfold keyOf
  have hf : a.val.formed Tryd.prog 28 = true := by simp [Value.formed, Tryd.underlying28, cells_job, Jb.val, Value.cells]
  have hs : ∃ d, Tryd.prog.types.size + 1 = d + 3 := ⟨Tryd.prog.types.size - 2, by
    have : 2 ≤ Tryd.prog.types.size := of_decide_eq_true (by kernel_rfl)
    omega⟩
  obtain ⟨d, hd⟩ := hs
  rw [Tryd.underlying28]
  simp only [job_keyType, hf, Bool.and_self, if_true, hd, keyLits_job d a h, Option.map_some]
  rfl
theorem jkey_inj {a b : Jb} (ha : JWf a) (hb : JWf b) (h : jkey a = jkey b) : a = b := by
  have h1 := keyOf_job a ha
  have h2 := keyOf_job b hb
  rw [← h] at h2
  have := job_law.inj h1 h2
  obtain ⟨st, us, sp, nm⟩ := a
  obtain ⟨st2, us2, sp2, nm2⟩ := b
  simp [Jb.val] at this
  obtain ⟨rfl, rfl, rfl, rfl⟩ := this
  rfl

noncomputable abbrev R0 : Value → Option (DataW Unit × List MemPlace) := plainElem Tryd.prog 4
/-- block b is a map of the jobs of S -/
def MetJ (w : World) (b n : Nat) (S : List Jb) : Prop := ∃ D, w.ownsMap Tryd.prog 28 R0 b n D ∧ Maps.IsMap D ∧ ∀ a, JWf a → D.atKey (jkey a) (.lit (.bool false)) = .lit (.bool (decide (a ∈ S)))
theorem MetJ.made (w : World) : MetJ (w.alloc (.map #[] 0)) w.heap.size 0 [] := by
  have h := World.ownsMap_made w Tryd.prog 28 R0
  refine ⟨_, h, h.isMap, fun a _ => ?_⟩
  simp
  exact WideAt.atKey_none _ (by simp)
theorem zero_bool (w : World) : (zeroValue 4).run Tryd.prog w = .ok (.bool false) w := by kernel_rfl
theorem MetJ.look {w : World} {b n : Nat} {S : List Jb} (h : MetJ w b n S) (a : Jb) (ha : JWf a) : (Instr.lookup 60 (.map (some b)) a.val false).run Tryd.prog w = .ok (.bool (decide (a ∈ S))) w := by
  obtain ⟨D, h1, h2, h3⟩ := h
  obtain ⟨v, ps, hrun, hv⟩ := h1.lookup job_law Tryd.underlying60 (zero_bool w) (plainElem_bool Tryd.underlying4 false) (keyOf_job a ha)
  rw [h3 a ha] at hv
  have : v = .bool (decide (a ∈ S)) := by
    unfold R0 plainElem at hv
    rw [Tryd.underlying4] at hv
    cases v <;> simp at hv
    obtain ⟨h5, _⟩ := hv
    rw [h5]
  rw [← this]
  exact hrun
theorem MetJ.put {w : World} {b n : Nat} {S : List Jb} (h : MetJ w b n S) (hn : n < maxLen) (a : Jb) (ha : JWf a) :
    ∃ w', (Instr.mapUpdate 60 (.map (some b)) a.val (.bool true)).run Tryd.prog w = .ok () w' ∧ MetJ w' b (n + 1) (a :: S) ∧ Below b w w' := by
  obtain ⟨D, h1, h2, h3⟩ := h
  obtain ⟨w', hrun, ho, hg⟩ := h1.update job_law Tryd.underlying60 hn (keyOf_job a ha) (plainElem_bool Tryd.underlying4 true)
  refine ⟨w', hrun, ⟨_, ho, ho.isMap, fun x hx => ?_⟩, (Below.refl b w).grown hg (Nat.le_of_lt h1.lt) (fun k hk => by injection hk with hk; omega)⟩
  by_cases e : x = a
  · subst e
    rw [Maps.atKey_put_same h2 (job_law.key (keyOf_job x hx))]
    simp
  · rw [Maps.atKey_put_other (fun h => e (jkey_inj hx ha h)), h3 x hx]
    simp [e]
theorem MetJ.below {w w' : World} {b n : Nat} {S : List Jb} (h : MetJ w b n S) (hb : Below w.heap.size w w') : MetJ w' b n S := by
  obtain ⟨D, h1, h2, h3⟩ := h
  exact ⟨D, h1.kept (row := none) ⟨hb.os, hb.tape, hb.output, hb.size, fun k hk _ => hb.block k hk⟩ (by simp), h2, h3⟩
theorem wpList_met {w : World} {ops : Array Oper} {rest : List Oper} {o : Oper} {a : Act} {Q : Exit → Act → World → Prop}
    (hg : o.guard = none) (m x v : Operand) (hop : o.op = Op.mapUpdate 60 m x v) (b n : Nat) (S : List Jb)
    (hm : a.eval m = .map (some b)) (h : MetJ w b n S) (hn : n < maxLen) (j : Jb) (hj : JWf j) (hx : a.eval x = j.val) (hv : a.eval v = .bool true)
    (hK : ∀ w', MetJ w' b (n + 1) (j :: S) → Below b w w' → wpList Tryd.prog ops Q rest (a.put o.dst undef) w') :
    wpList Tryd.prog ops Q (o :: rest) a w := by
  refine wpList_plain hg fun K' hK' => ?_
  obtain ⟨w', hrun, r1, r2⟩ := h.put hn j hj
  unfold Oper.wp
  simp [execOp, hop, hm, hx, hv, hrun, Result.andThen]
  exact hK' _ _ (hK w' r1 r2)

theorem wpList_look {w : World} {ops : Array Oper} {rest : List Oper} {o : Oper} {a : Act} {Q : Exit → Act → World → Prop}
    (hg : o.guard = none) (m x : Operand) (hop : o.op = Op.lookup 60 m x false) (b n : Nat) (S : List Jb) (r : Bool)
    (hm : a.eval m = .map (some b)) (h : MetJ w b n S) (j : Jb) (hj : JWf j) (hr : decide (j ∈ S) = r) (hx : a.eval x = j.val)
    (hK : wpList Tryd.prog ops Q rest (a.put o.dst (.bool r)) w) :
    wpList Tryd.prog ops Q (o :: rest) a w := by
  subst hr
  refine wpList_plain hg fun K' hK' => ?_
  have hrun := h.look j hj
  unfold Oper.wp
  simp [execOp, hop, hm, hx, hrun, Result.andThen]
  exact hK' _ _ (by simpa using hK)
theorem MetJ.lt {w : World} {b n : Nat} {S : List Jb} (h : MetJ w b n S) : b < w.heap.size := by
  obtain ⟨D, h1, _⟩ := h
  exact h1.lt
theorem all_any (L : List Jb) : L.all jv = !(L.any (fun a => !jv a)) := by
  rw [List.not_any_eq_all_not]
  simp
theorem take_nodup {L : List Jb} {k : Nat} (hk : k < L.length) (h : (L.take k).Nodup) : (L.take (k + 1)).Nodup ↔ L.getD k jb0 ∉ L.take k := by
  have e : L.take (k + 1) = L.take k ++ [L.getD k jb0] := by
    rw [List.take_add_one, List.getElem?_eq_getElem hk]
    simp [List.getD, List.getElem?_eq_getElem hk]
  rw [e, List.nodup_append]
  constructor
  · rintro ⟨_, _, h3⟩ hm
    exact h3 _ hm _ (by simp) rfl
  · intro hm
    refine ⟨h, by simp, fun a ha b hb => ?_⟩
    simp at hb
    subst hb
    intro e2
    apply hm
    rw [e2] at ha
    simpa [List.getD] using ha
theorem mem_perm {k : Nat} {L : List Jb} (hk : k < L.length) : ∀ (a : Jb), a ∈ L.getD k jb0 :: L.take k ↔ a ∈ L.take (k + 1) := by
  intro a
  have e : L.take (k + 1) = L.take k ++ [L.getD k jb0] := by
    rw [List.take_add_one, List.getElem?_eq_getElem hk]
    simp [List.getD, List.getElem?_eq_getElem hk]
  rw [e]
  simp [or_comm]
theorem MetJ.congr {w : World} {b n : Nat} {S S' : List Jb} (h : MetJ w b n S) (hS : ∀ a, a ∈ S ↔ a ∈ S') : MetJ w b n S' := by
  obtain ⟨D, h1, h2, h3⟩ := h
  refine ⟨D, h1, h2, fun a ha => ?_⟩
  rw [h3 a ha]
  simp [hS a]

set_option maxRecDepth 100000 in
set_option maxHeartbeats 8000000 in
theorem valid_any (A : Option Addr) (n c : Nat) (L : List Jb) (B : Option Addr) (m d : Nat) (M : List Jb) (x : Int) (w : World) (h : RdR RJ 4 w A n c L) (h2 : RdR RJ 4 w B m d M) (hm : Hm x w) (hwf : ∀ a ∈ L, JWf a) :
    Calls Tryd.prog 17 #[.agg #[.slice A n c, .slice B m d]] w fun e w' => e = .returned (.bool (qv L M)) ∧ Below w.heap.size w w' := by
  have hmax : n ≤ maxLen := Nat.le_trans h.cap h.max
  have hmax' := hmax
  unfold maxLen at hmax'
  have HC1 : Hid (∀ W, Below w.heap.size w W → Calls Tryd.prog 35 #[.slice A n c, .func (.func 36) #[] #[]] W fun e w' => e = .returned (.bool (L.any (fun a => !jv a))) ∧ Below W.heap.size W w') := Lib.hid fun W hW => containsfunc_bad A n c L x W (RdJ.below h hW) (hm.below hW)
  have HC2 : Hid (∀ W, Below w.heap.size w W → Calls Tryd.prog 35 #[.slice B m d, .func (.func 36) #[] #[]] W fun e w' => e = .returned (.bool (M.any (fun a => !jv a))) ∧ Below W.heap.size W w') := Lib.hid fun W hW => containsfunc_bad B m d M x W (RdJ.below h2 hW) (hm.below hW)
  have HO := Lib.hid fun (h0 : 0 < n) => RdJ.opened h h0
  have HNL := Lib.hid h.len
  have HQ : Hid (qv L M = (!(L.any (fun a => !jv a)) && !(M.any (fun a => !jv a)) && decide L.Nodup)) := Lib.hid (by unfold qv; rw [all_any, all_any])
  have HW := Lib.hid hwf
  generalize L.any (fun a => !jv a) = r1 at *
  generalize M.any (fun a => !jv a) = r2 at *
  clear h h2 hm hwf
  cases r1 with
  | true =>
    go_enter Tryd.func17, Tryd.ntmps17
    go_wp2_with (go_at_call 35; refine (HC1.out _ ?_).mono ?_; (focus (refine bel_out ?_; (focus (repeat' first | (with_reducible refine bel_refl ?_) | with_reducible assumption | with_reducible refine bel_drew ?_ | with_reducible refine bel_drewN _ ?_ | with_reducible refine bel_alloc _ ?_ | with_reducible refine bel_set ?_ _ ?_ | (with_reducible apply bel_call; with_reducible assumption) | (with_reducible apply bel_owg; with_reducible assumption; (focus omega)) | with_reducible exact Nat.le_refl _ | omega | (simp; done) | (simp; omega))))); rintro e w1 ⟨rfl, hb1⟩)
    go_ret
    exact ⟨by rw [HQ.out]; rfl, by (refine bel_out ?_; (focus (repeat' first | (with_reducible refine bel_refl ?_) | with_reducible assumption | with_reducible refine bel_drew ?_ | with_reducible refine bel_drewN _ ?_ | with_reducible refine bel_alloc _ ?_ | with_reducible refine bel_set ?_ _ ?_ | (with_reducible apply bel_call; with_reducible assumption) | (with_reducible apply bel_owg; with_reducible assumption; (focus omega)) | with_reducible exact Nat.le_refl _ | omega | (simp; done) | (simp; omega))))⟩
  | false =>
    cases r2 with
    | true =>
      go_enter Tryd.func17, Tryd.ntmps17
      go_wp2_with (first
        | (go_at_call 35; ((with_reducible refine (HC1.out _ ?_).mono ?_); (focus (refine bel_out ?_; (focus (repeat' first | (with_reducible refine bel_refl ?_) | with_reducible assumption | with_reducible refine bel_drew ?_ | with_reducible refine bel_drewN _ ?_ | with_reducible refine bel_alloc _ ?_ | with_reducible refine bel_set ?_ _ ?_ | (with_reducible apply bel_call; with_reducible assumption) | (with_reducible apply bel_owg; with_reducible assumption; (focus omega)) | with_reducible exact Nat.le_refl _ | omega | (simp; done) | (simp; omega))))); rintro e w1 ⟨rfl, hb1⟩; obtain ⟨kc1, kf1, kz1, kh1⟩ := blk_cells hb1 (g := w.heap.size) (t := 24) (cs := #[.slice A n c, .slice B m d]) (by (focus (repeat' first | with_reducible assumption | (with_reducible refine heap_drew ?_) | (with_reducible refine heap_drewN ?_) | (with_reducible refine heap_new ?_; focus (first | rfl | omega | (simp; done))) | (with_reducible refine heap_old ?_) | (with_reducible apply heap_near') | ((with_reducible show Array.setIfInBounds _ _ _ = _); rfl) | (with_reducible refine heap_far ?_ ?_; focus (first | omega | (simp; omega) | (simp; done))) | (with_reducible apply heap_grown; with_reducible assumption; (focus (first | omega | (simp; omega)))) | (with_reducible apply heap_call; with_reducible assumption))))))
        | (go_at_call 35; go_must ((with_reducible refine (HC2.out _ ?_).mono ?_); (focus (refine bel_out ?_; (focus (repeat' first | (with_reducible refine bel_refl ?_) | with_reducible assumption | with_reducible refine bel_drew ?_ | with_reducible refine bel_drewN _ ?_ | with_reducible refine bel_alloc _ ?_ | with_reducible refine bel_set ?_ _ ?_ | (with_reducible apply bel_call; with_reducible assumption) | (with_reducible apply bel_owg; with_reducible assumption; (focus omega)) | with_reducible exact Nat.le_refl _ | omega | (simp; done) | (simp; omega))))); rintro e w2 ⟨rfl, hb2⟩)))
      go_ret
      exact ⟨by rw [HQ.out]; rfl, by (refine bel_out ?_; (focus (repeat' first | (with_reducible refine bel_refl ?_) | with_reducible assumption | with_reducible refine bel_drew ?_ | with_reducible refine bel_drewN _ ?_ | with_reducible refine bel_alloc _ ?_ | with_reducible refine bel_set ?_ _ ?_ | (with_reducible apply bel_call; with_reducible assumption) | (with_reducible apply bel_owg; with_reducible assumption; (focus omega)) | with_reducible exact Nat.le_refl _ | omega | (simp; done) | (simp; omega))))⟩
    | false =>
      have hmk := @run_makeMap Tryd.prog
      go_enter Tryd.func17, Tryd.ntmps17
      go_wp2_with (first
        | (go_at_call 35; ((with_reducible refine (HC1.out _ ?_).mono ?_); (focus (refine bel_out ?_; (focus (repeat' first | (with_reducible refine bel_refl ?_) | with_reducible assumption | with_reducible refine bel_drew ?_ | with_reducible refine bel_drewN _ ?_ | with_reducible refine bel_alloc _ ?_ | with_reducible refine bel_set ?_ _ ?_ | (with_reducible apply bel_call; with_reducible assumption) | (with_reducible apply bel_owg; with_reducible assumption; (focus omega)) | with_reducible exact Nat.le_refl _ | omega | (simp; done) | (simp; omega))))); rintro e w1 ⟨rfl, hb1⟩; obtain ⟨kc1, kf1, kz1, kh1⟩ := blk_cells hb1 (g := w.heap.size) (t := 24) (cs := #[.slice A n c, .slice B m d]) (by (focus (repeat' first | with_reducible assumption | (with_reducible refine heap_drew ?_) | (with_reducible refine heap_drewN ?_) | (with_reducible refine heap_new ?_; focus (first | rfl | omega | (simp; done))) | (with_reducible refine heap_old ?_) | (with_reducible apply heap_near') | ((with_reducible show Array.setIfInBounds _ _ _ = _); rfl) | (with_reducible refine heap_far ?_ ?_; focus (first | omega | (simp; omega) | (simp; done))) | (with_reducible apply heap_grown; with_reducible assumption; (focus (first | omega | (simp; omega)))) | (with_reducible apply heap_call; with_reducible assumption))))))
        | (go_at_call 35; go_must ((with_reducible refine (HC2.out _ ?_).mono ?_); (focus (refine bel_out ?_; (focus (repeat' first | (with_reducible refine bel_refl ?_) | with_reducible assumption | with_reducible refine bel_drew ?_ | with_reducible refine bel_drewN _ ?_ | with_reducible refine bel_alloc _ ?_ | with_reducible refine bel_set ?_ _ ?_ | (with_reducible apply bel_call; with_reducible assumption) | (with_reducible apply bel_owg; with_reducible assumption; (focus omega)) | with_reducible exact Nat.le_refl _ | omega | (simp; done) | (simp; omega))))); rintro e w2 ⟨rfl, hb2⟩; obtain ⟨kc2, kf2, kz2, kh2⟩ := blk_cells hb2 (g := w.heap.size) (t := 24) (cs := #[.slice A n c, .slice B m d]) (by (focus (repeat' first | with_reducible assumption | (with_reducible refine heap_drew ?_) | (with_reducible refine heap_drewN ?_) | (with_reducible refine heap_new ?_; focus (first | rfl | omega | (simp; done))) | (with_reducible refine heap_old ?_) | (with_reducible apply heap_near') | ((with_reducible show Array.setIfInBounds _ _ _ = _); rfl) | (with_reducible refine heap_far ?_ ?_; focus (first | omega | (simp; omega) | (simp; done))) | (with_reducible apply heap_grown; with_reducible assumption; (focus (first | omega | (simp; omega)))) | (with_reducible apply heap_call; with_reducible assumption)))))))
      have hb02 : Below w.heap.size w w2 := by (refine bel_out ?_; (focus (repeat' first | (with_reducible refine bel_refl ?_) | with_reducible assumption | with_reducible refine bel_drew ?_ | with_reducible refine bel_drewN _ ?_ | with_reducible refine bel_alloc _ ?_ | with_reducible refine bel_set ?_ _ ?_ | (with_reducible apply bel_call; with_reducible assumption) | (with_reducible apply bel_owg; with_reducible assumption; (focus omega)) | with_reducible exact Nat.le_refl _ | omega | (simp; done) | (simp; omega))))
      have hz02 := hb02.size
      clear hb1 kc1 kf1 kz1 kh1 hb2 HC1 HC2
      go_wp2_with fail
      go_loopw [18] (fun v wr => ∃ k : Nat, k ≤ n ∧ v = .int .i64 k ∧ Below w2.heap.size w2 wr ∧ MetJ wr w2.heap.size k (L.take k) ∧ Hid (L.take k).Nodup) (fun v _ => n - (intOf v).toNat)
      case atStart => exact ⟨0, Nat.zero_le _, rfl, by (refine bel_out ?_; (focus (repeat' first | (with_reducible refine bel_refl ?_) | with_reducible assumption | with_reducible refine bel_drew ?_ | with_reducible refine bel_drewN _ ?_ | with_reducible refine bel_alloc _ ?_ | with_reducible refine bel_set ?_ _ ?_ | (with_reducible apply bel_call; with_reducible assumption) | (with_reducible apply bel_owg; with_reducible assumption; (focus omega)) | with_reducible exact Nat.le_refl _ | omega | (simp; done) | (simp; omega)))), MetJ.made _, Lib.hid (by simp)⟩
      case round =>
        obtain ⟨k, hk, rfl, hbw, hmet, HN⟩ := hrel
        by_cases hlt : k < n
        · have hkl : k < L.length := by rw [← HNL.out]; exact hlt
          obtain ⟨b, off, rfl, hb, hc⟩ := HO.out (by omega)
          obtain ⟨x1, x2, x3, x4⟩ := hc k hlt
          have hb0w := below_call hb02 hbw
          have c1 := (hb0w.cell (p := ⟨b, off + k * 4, none⟩) hb).trans x1
          have c2 := (hb0w.cell (p := ⟨b, off + k * 4 + 1, none⟩) hb).trans x2
          have c3 := (hb0w.cell (p := ⟨b, off + k * 4 + 2, none⟩) hb).trans x3
          have c4 := (hb0w.cell (p := ⟨b, off + k * 4 + 3, none⟩) hb).trans x4
          have hJW : Hid (JWf (L.getD k jb0)) := Lib.hid (HW.out _ (by simp [List.getD, List.getElem?_eq_getElem hkl]))
          have HT := Lib.hid (take_nodup hkl HN.out)
          have HP := Lib.hid (mem_perm hkl)
          have HD : Hid (L.getD k jb0 ∈ L.take k → decide L.Nodup = false) := Lib.hid fun h => by
            rw [decide_eq_false_iff_not]
            intro h2
            exact (HT.out.1 (h2.sublist (List.take_sublist _ _))) h
          have HDt : Hid (L.getD k jb0 ∉ L.take k → (L.take (k + 1)).Nodup) := Lib.hid HT.out.2
          have hmw := hmet.lt
          clear hc x1 x2 x3 x4 HO HT HN hkl HW
          have z0 : (0 : Int) ≤ (k : Int) := by omega
          have z1 : (k : Int) < (n : Int) := by omega
          generalize L.take k = S0 at *
          generalize L.getD k jb0 = j at *
          obtain ⟨st, us, sp, nm⟩ := j
          by_cases hj : (⟨st, us, sp, nm⟩ : Jb) ∈ S0
          · have hr : decide ((⟨st, us, sp, nm⟩ : Jb) ∈ S0) = true := decide_eq_true hj
            have HR := Lib.hid (HD.out hj)
            clear HD HDt hj
            go_wp2_with (first
              | (at_lookup; go_must ((refine wpList_look rfl (.tmp 22) (.tmp 23) rfl w2.heap.size k S0 true rfl (MetJ.below hmet ?_) ⟨st, us, sp, nm⟩ hJW.out hr rfl ?_); (focus (refine bel_out ?_; (focus (repeat' first | (with_reducible refine bel_refl ?_) | with_reducible assumption | with_reducible refine bel_drew ?_ | with_reducible refine bel_drewN _ ?_ | with_reducible refine bel_alloc _ ?_ | with_reducible refine bel_set ?_ _ ?_ | (with_reducible apply bel_call; with_reducible assumption) | (with_reducible apply bel_owg; with_reducible assumption; (focus omega)) | with_reducible exact Nat.le_refl _ | omega | (simp; done) | (simp; omega))))))))
            go_ret
            exact ⟨by rw [HQ.out, HR.out]; rfl, by (refine bel_out ?_; (focus (repeat' first | (with_reducible refine bel_refl ?_) | with_reducible assumption | with_reducible refine bel_drew ?_ | with_reducible refine bel_drewN _ ?_ | with_reducible refine bel_alloc _ ?_ | with_reducible refine bel_set ?_ _ ?_ | (with_reducible apply bel_call; with_reducible assumption) | (with_reducible apply bel_owg; with_reducible assumption; (focus omega)) | with_reducible exact Nat.le_refl _ | omega | (simp; done) | (simp; omega))))⟩
          · have hr : decide ((⟨st, us, sp, nm⟩ : Jb) ∈ S0) = false := decide_eq_false hj
            have HR := Lib.hid (HDt.out hj)
            clear HD HDt hj
            go_wp2_with (first
              | (at_lookup; go_must ((refine wpList_look rfl (.tmp 22) (.tmp 23) rfl w2.heap.size k S0 false rfl (MetJ.below hmet ?_) ⟨st, us, sp, nm⟩ hJW.out hr rfl ?_); (focus (refine bel_out ?_; (focus (repeat' first | (with_reducible refine bel_refl ?_) | with_reducible assumption | with_reducible refine bel_drew ?_ | with_reducible refine bel_drewN _ ?_ | with_reducible refine bel_alloc _ ?_ | with_reducible refine bel_set ?_ _ ?_ | (with_reducible apply bel_call; with_reducible assumption) | (with_reducible apply bel_owg; with_reducible assumption; (focus omega)) | with_reducible exact Nat.le_refl _ | omega | (simp; done) | (simp; omega)))))))
              | (at_mapUpdate; go_must ((refine wpList_met rfl (.tmp 25) (.tmp 26) (.const (.bool true)) rfl w2.heap.size k S0 rfl (MetJ.below hmet ?_) (by omega) ⟨st, us, sp, nm⟩ hJW.out rfl rfl ?_); (focus (refine bel_out ?_; (focus (repeat' first | (with_reducible refine bel_refl ?_) | with_reducible assumption | with_reducible refine bel_drew ?_ | with_reducible refine bel_drewN _ ?_ | with_reducible refine bel_alloc _ ?_ | with_reducible refine bel_set ?_ _ ?_ | (with_reducible apply bel_call; with_reducible assumption) | (with_reducible apply bel_owg; with_reducible assumption; (focus omega)) | with_reducible exact Nat.le_refl _ | omega | (simp; done) | (simp; omega))))); intro w3 hmet3 hbm3)))
            go_roundw
            case rel => exact ⟨k + 1, by omega, by go_num, (hbw.alloc (Nat.le_of_lt hmw) _).trans hbm3, hmet3.congr HP.out, HR⟩
            case measure => simp [intOf]; omega
        · obtain rfl : k = n := by omega
          have HR : Hid (decide L.Nodup = true) := Lib.hid (decide_eq_true (by
            have := HN.out
            rwa [HNL.out, List.take_length] at this))
          go_wp2
          go_ret
          exact ⟨by rw [HQ.out, HR.out]; rfl, below_call hb02 hbw⟩
end Go.Proofs.YtobgnncdldfkkaaDoor
