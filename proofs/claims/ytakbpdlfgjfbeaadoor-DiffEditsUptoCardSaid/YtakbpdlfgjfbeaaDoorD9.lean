/- The reference's put. -/
import Derived.Test.YtakbpdlfgjfbeaaDoorSE
import Derived.Test.YtakbpdlfgjfbeaaDoorD1
namespace Go.Proofs.YtakbpdlfgjfbeaaDoor
open Go.RowKit
set_option linter.unusedSimpArgs false
set_option linter.unusedVariables false

def NoX : Nat → Prop := fun _ => False
theorem ed_info : (Tryd.prog.info? 32).map (fun i => (i.zero, i.size, i.bytes)) = some (some (.agg #[.int .i64 0, .slice none 0 0]), 2, 32) := by kernel_rfl
def putI (k : Int) (L : List ByteArray) : List Ed := if L = [] then [] else [(k, L)]
theorem putI_nil (k : Int) : putI k [] = [] := rfl
theorem EI_put' (k : Nat) (L : List ByteArray) : EI (put1 k L) = putI k L := by rw [EI_put]; rfl
theorem RdR.nil_none {α : Type} {R : World → α → List Value → Prop} {sz n c : Nat} {w : World} {A : Option Addr} {L : List α} (h : RdR R sz w A n c L) (hn : n = 0) : L = [] := List.eq_nil_of_length_eq_zero (by rw [← h.len]; exact hn)
theorem Reads.one {w : World} {A : Option Addr} {n c sz : Nat} {α : Type} {R : World → α → List Value → Prop} {L : List α} (h : RdR R sz w A n c L) : ∃ xs, Reads w w.heap.size sz A n xs ∧ Fits R sz w L xs := h.reads
theorem oneRE {w : World} {X : Nat → Prop} {A : Option Addr} {n : Nat} {E : List Ed} {xs : List Value} (hr : Reads w w.heap.size 2 A n xs) (hf : Fits (REX X) 2 w E xs) (hn : n = E.length) : ∀ u ∈ xs, u.oneCell' = true := by
  intro u hu
  obtain ⟨j, hj, rfl⟩ := List.mem_iff_getElem.1 hu
  have hl := hr.1
  have hk : j / 2 < E.length := by omega
  obtain ⟨A', n', c', e, _⟩ := hf (j / 2) _ (List.getElem?_eq_getElem hk)
  have h2 : ((xs.drop (j / 2 * 2)).take 2)[j % 2]? = some xs[j] := by
    rw [List.getElem?_take, if_pos (Nat.mod_lt _ (by omega)), List.getElem?_drop, show j / 2 * 2 + j % 2 = j by omega]
    exact List.getElem?_eq_getElem hj
  rw [e] at h2
  rcases Nat.mod_two_eq_zero_or_one j with h0 | h0 <;> rw [h0] at h2 <;> simp at h2 <;> rw [← h2] <;> rfl
theorem oneRS {w : World} {A : Option Addr} {n : Nat} {L : List ByteArray} {xs : List Value} (hr : Reads w w.heap.size 1 A n xs) (hf : Fits RS 1 w L xs) (hn : n = L.length) : ∀ u ∈ xs, u.oneCell' = true := by
  intro u hu
  obtain ⟨j, hj, rfl⟩ := List.mem_iff_getElem.1 hu
  have hl := hr.1
  have hk : j < L.length := by omega
  have e : (xs.drop (j * 1)).take 1 = [.string L[j]] := hf j _ (List.getElem?_eq_getElem hk)
  have h2 : ((xs.drop (j * 1)).take 1)[0]? = some xs[j] := by
    rw [List.getElem?_take, if_pos (by omega), List.getElem?_drop, Nat.mul_one, Nat.add_zero]
    exact List.getElem?_eq_getElem hj
  rw [e] at h2
  simp at h2
  rw [← h2]; rfl

def REdits (w : World) (E : List Ed) (e : Ending) (w' : World) : Prop := ∃ A n c, e = .returned (.slice A n c) ∧ RdR (REX NoX) 2 w' A n c E ∧ Below w.heap.size w w'

set_option maxRecDepth 100000 in
set_option maxHeartbeats 4000000 in
theorem rput_any (A : Option Addr) (n c : Nat) (E : List Ed) (k : Int) (A2 : Option Addr) (n2 c2 : Nat) (L : List ByteArray) (w : World) (hE : RdR (REX NoX) 2 w A n c E) (hL : RdR RS 1 w A2 n2 c2 L) (hn : n ≤ 100000) (hn2 : n2 ≤ 100000) :
    Calls Tryd.prog 36 #[.slice A n c, .int .i64 k, .slice A2 n2 c2] w (REdits w (E ++ putI k L)) := by
  obtain ⟨i0, hi0, hz0, hz1, hz2⟩ := info_parts str_info
  obtain ⟨i1, hi1, hy0, hy1, hy2⟩ := info_parts ed_info
  by_cases h0 : n2 = 0
  · have hl : L = [] := hL.nil_none h0
    have hd : ((n2 : Int) == 0) = true := by rw [h0]; rfl
    have HE := Lib.hid hE
    rw [hl, putI_nil, List.append_nil]
    clear hl hL hE h0
    go_enter Tryd.func36, Tryd.ntmps36
    go_wp2
    go_ret
    exact ⟨_, _, _, rfl, HE.out, Below.refl _ _⟩
  · have hd : ((n2 : Int) == 0) = false := by rw [beq_eq_false_iff_ne]; omega
    have hl : putI k L = [(k, L)] := by
      unfold putI
      rw [if_neg (fun e => h0 (by rw [hL.len, e]; rfl))]
    rw [hl]
    have HE := Lib.hid hE
    have HL := Lib.hid hL
    obtain ⟨xs, hr, hf⟩ := hE.reads
    obtain ⟨ys, hr2, hf2⟩ := hL.reads
    have ho := oneRE hr hf hE.len
    have ho' := oneRS hr2 hf2 hL.len
    have hlE := Lib.hid hE.len
    have hlL := Lib.hid hL.len
    clear hl hE hL h0
    go_enter Tryd.func36, Tryd.ntmps36
    go_wp2_with (first
      | (at_builtin; refine wpList_append_r _ rfl (.const (.slice none 0 0)) (.tmp 11) 27 rfl 2 32 w.heap.size 32 i1 (.agg #[.int .i64 0, .slice none 0 0]) (REX.stay NoX) (by decide) Tryd.underlying27 hi1 hy0 hy1 hy2 rfl (by omega) none 0 0 [] rfl (OwR.nil _ _ _ _ _) A n c rfl E xs hr hf hlE.out ho (by unfold maxLen; omega) (by omega) (Nat.le_refl _) ?_; intro A3 c3 w1 ho1 hg1; rw [Nat.zero_add, List.nil_append] at ho1)
      | (at_builtin; refine wpList_append_r _ rfl (.const (.slice none 0 0)) (.tmp 14) 30 rfl 1 16 w1.heap.size 9 i0 (.string ByteArray.empty) RS.stay (by decide) Tryd.underlying30 hi0 hz0 hz1 hz2 rfl (by omega) none 0 0 [] rfl (OwR.nil _ _ _ _ _) A2 n2 c2 rfl L ys ((hr2.below hg1.new).more hg1.g.size) hf2 hlL.out ho' (by unfold maxLen; omega) (by omega) (Nat.le_refl _) ?_; intro A4 c4 w2 ho2 hg2; rw [Nat.zero_add, List.nil_append] at ho2; have hs1 := hg1.g.size; have hs2 := hg2.g.size; have hb2 := hg2.new; have hoA := (ho1.call (REX.stay NoX) hb2))
      | (at_builtin; go_must (refine wpList_append_r _ rfl (.tmp 12) (.tmp 17) 27 rfl 2 32 w.heap.size 32 i1 (.agg #[.int .i64 0, .slice none 0 0]) (REX.stay NoX) (by decide) Tryd.underlying27 hi1 hy0 hy1 hy2 rfl (by omega) A3 n c3 E rfl ?_ (some ⟨w2.heap.size, 0, none⟩) 1 1 rfl [(k, L)] [.int .i64 k, .slice A4 n2 c4] ?_ ?_ rfl ?_ ?_ ?_ ?_ ?_; (focus exact hoA.call (REX.stay NoX) ((Below.refl _ _).alloc (Nat.le_refl _) _)); (focus exact Reads.lit (cs := #[.int .i64 k, .slice A4 n2 c4]) rfl); (focus exact Fits.one rfl ⟨A4, n2, c4, rfl, (ho2.call RS.stay ((Below.refl _ _).alloc (Nat.le_refl _) _)).rd, (OwS.ty ho2).below ((Below.refl _ _).alloc (Nat.le_refl _) _), fun _ _ h => h⟩); (focus (simp [Value.oneCell'])); (focus (unfold maxLen; omega)); (focus omega); (focus (rw [size_alloc_]; omega)); intro A5 c5 w3 ho5 hg5))
      )
    go_ret
    exact ⟨_, _, _, rfl, ho5.rd, ((hg1.b.trans (hb2.mono hs1)).alloc (by omega) _).trans hg5.b⟩
end Go.Proofs.YtakbpdlfgjfbeaaDoor
