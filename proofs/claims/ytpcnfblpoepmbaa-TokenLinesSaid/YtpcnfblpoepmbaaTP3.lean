/- Plain law of the tokens: all tokens of a text. -/
import Derived.Test.YtpcnfblpoepmbaaTP2
namespace Go.Proofs.Ytpcnfblpoepmbaa
set_option linter.unusedSimpArgs false
set_option linter.unusedVariables false

/-- a token: kind, from, to -/
abbrev Tok := Nat × Nat × Nat
/-- the tokens from byte `at` on; a text has begun at byte `text` -/
def scF (l : List UInt8) : Nat → Nat → Nat → List Tok
  | 0, _, text => if text < l.length then [(1, text, l.length)] else []
  | f + 1, at_, text =>
    if at_ < l.length then
      (if (TK (l.drop at_)).1 = 0 then scF l f (at_ + 1) text
       else (if text < at_ then [(1, text, at_)] else []) ++ ((TK (l.drop at_)).1, at_, at_ + (TK (l.drop at_)).2) :: scF l f (at_ + (TK (l.drop at_)).2) (at_ + (TK (l.drop at_)).2))
    else if text < l.length then [(1, text, l.length)] else []
def scG (l : List UInt8) (at_ text : Nat) : List Tok := scF l (l.length - at_) at_ text
/-- the tokens of a text -/
def SC (l : List UInt8) : List Tok := scG l 0 0
section
variable {l : List UInt8}
theorem scF_end {f at_ text : Nat} (h : ¬ at_ < l.length) : scF l f at_ text = if text < l.length then [(1, text, l.length)] else [] := by
  cases f
  · rfl
  · rw [scF, if_neg h]
theorem TK_drop {at_ : Nat} (h : (TK (l.drop at_)).1 ≠ 0) : 0 < (TK (l.drop at_)).2 ∧ at_ + (TK (l.drop at_)).2 ≤ l.length ∧ 2 ≤ (TK (l.drop at_)).1 ∧ (TK (l.drop at_)).1 ≤ 12 := by
  have := TK_bound _ h
  rw [List.length_drop] at this
  omega
theorem scF_fuel : ∀ {f g at_ text : Nat}, l.length - at_ ≤ f → l.length - at_ ≤ g → scF l f at_ text = scF l g at_ text
  | 0, g, at_, text, h1, h2 => by rw [scF_end (by omega), scF_end (by omega)]
  | f + 1, 0, at_, text, h1, h2 => by rw [scF_end (by omega), scF_end (by omega)]
  | f + 1, g + 1, at_, text, h1, h2 => by
    unfold scF
    by_cases h : at_ < l.length
    · rw [if_pos h, if_pos h]
      by_cases hk : (TK (l.drop at_)).1 = 0
      · rw [if_pos hk, if_pos hk]
        exact scF_fuel (by omega) (by omega)
      · rw [if_neg hk, if_neg hk]
        have := TK_drop hk
        rw [scF_fuel (f := f) (g := g) (by omega) (by omega)]
    · rw [if_neg h, if_neg h]
theorem scG_end {at_ text : Nat} (h : ¬ at_ < l.length) : scG l at_ text = if text < l.length then [(1, text, l.length)] else [] := scF_end h
theorem scG_text {at_ text : Nat} (h : at_ < l.length) (hk : (TK (l.drop at_)).1 = 0) : scG l at_ text = scG l (at_ + 1) text := by
  unfold scG
  rw [show l.length - at_ = (l.length - (at_ + 1)) + 1 by omega, scF, if_pos h, if_pos hk]
theorem scG_tok {at_ text : Nat} (h : at_ < l.length) (hk : (TK (l.drop at_)).1 ≠ 0) :
    scG l at_ text = (if text < at_ then [(1, text, at_)] else []) ++ ((TK (l.drop at_)).1, at_, at_ + (TK (l.drop at_)).2) :: scG l (at_ + (TK (l.drop at_)).2) (at_ + (TK (l.drop at_)).2) := by
  have := TK_drop hk
  unfold scG
  rw [show l.length - at_ = (l.length - (at_ + 1)) + 1 by omega, scF, if_pos h, if_neg hk]
  rw [scF_fuel (f := l.length - (at_ + 1)) (g := l.length - (at_ + (TK (l.drop at_)).2)) (by omega) (Nat.le_refl _)]

/-- tokens that cover the bytes from a to b, one behind the other -/
def Chain : Nat → List Tok → Nat → Prop
  | a, [], b => a = b
  | a, x :: L, b => x.2.1 = a ∧ a < x.2.2 ∧ x.2.2 ≤ b ∧ 1 ≤ x.1 ∧ x.1 ≤ 12 ∧ Chain x.2.2 L b
theorem sc_chain : ∀ d {at_ text : Nat}, l.length - at_ = d → text ≤ at_ → at_ ≤ l.length → Chain text (scG l at_ text) l.length := by
  intro d
  induction d using Nat.strongRecOn with
  | _ d ih =>
    intro at_ text hd h1 h2
    by_cases h : at_ < l.length
    · by_cases hk : (TK (l.drop at_)).1 = 0
      · rw [scG_text h hk]
        exact ih _ (by omega) rfl (by omega) (by omega)
      · have hb := TK_drop hk
        rw [scG_tok h hk]
        have ih2 := ih _ (by omega) (at_ := at_ + (TK (l.drop at_)).2) (text := at_ + (TK (l.drop at_)).2) rfl (Nat.le_refl _) (by omega)
        by_cases ht : text < at_
        · rw [if_pos ht]
          exact ⟨rfl, ht, h2, Nat.le_refl _, by show 1 ≤ 12; omega, rfl, by show at_ < at_ + _; omega, hb.2.1, by show 1 ≤ (TK (l.drop at_)).1; omega, hb.2.2.2, ih2⟩
        · rw [if_neg ht]
          obtain rfl : text = at_ := by omega
          exact ⟨rfl, by show text < text + _; omega, hb.2.1, by show 1 ≤ (TK (l.drop text)).1; omega, hb.2.2.2, ih2⟩
    · rw [scG_end h]
      obtain rfl : at_ = l.length := by omega
      by_cases ht : text < l.length
      · rw [if_pos ht]
        exact ⟨rfl, ht, Nat.le_refl _, Nat.le_refl _, by show 1 ≤ 12; omega, rfl⟩
      · rw [if_neg ht]
        show text = l.length
        omega
theorem SC_chain (l : List UInt8) : Chain 0 (SC l) l.length := sc_chain _ rfl (Nat.le_refl _) (Nat.zero_le _)
theorem chain_len : ∀ {L : List Tok} {a b : Nat}, Chain a L b → a + L.length ≤ b
  | [], a, b, h => by have : a = b := h; simp; omega
  | x :: L, a, b, h => by
    obtain ⟨h1, h2, h3, _, _, h6⟩ := h
    have := chain_len h6
    simp; omega

/-- a token by itself -/
theorem sc_texts : ∀ d {at_ text : Nat}, l.length - at_ = d → text ≤ at_ → at_ ≤ l.length → (∀ j, at_ ≤ j → j < l.length → (TK (l.drop j)).1 = 0) → scG l at_ text = if text < l.length then [(1, text, l.length)] else [] := by
  intro d
  induction d with
  | zero => intro at_ text hd h1 h2 _; exact scG_end (by omega)
  | succ d ih =>
    intro at_ text hd h1 h2 hn
    rw [scG_text (by omega) (hn at_ (Nat.le_refl _) (by omega))]
    exact ih (by omega) (by omega) (by omega) (fun j h3 h4 => hn j (by omega) h4)
theorem sc_one (h : (TK l).1 ≠ 0) (hn : (TK l).2 = l.length) : SC l = [((TK l).1, 0, l.length)] := by
  have hb := TK_bound l h
  have e : l.drop 0 = l := rfl
  unfold SC
  rw [scG_tok (at_ := 0) (by omega) (by rw [e]; exact h)]
  rw [e, hn, Nat.zero_add, scG_end (by omega)]
  simp
def AloneT (l : List UInt8) (x : Tok) : Prop := SC ((l.drop x.2.1).take (x.2.2 - x.2.1)) = [(x.1, 0, x.2.2 - x.2.1)]
theorem alone_tok {at_ : Nat} (hk : (TK (l.drop at_)).1 ≠ 0) : AloneT l ((TK (l.drop at_)).1, at_, at_ + (TK (l.drop at_)).2) := by
  have h1 := TK_alone _ hk
  have hb := TK_bound _ hk
  show SC ((l.drop at_).take (at_ + (TK (l.drop at_)).2 - at_)) = [((TK (l.drop at_)).1, 0, at_ + (TK (l.drop at_)).2 - at_)]
  rw [Nat.add_sub_cancel_left]
  have hl : ((l.drop at_).take (TK (l.drop at_)).2).length = (TK (l.drop at_)).2 := by rw [List.length_take]; omega
  have := sc_one (l := (l.drop at_).take (TK (l.drop at_)).2) (by rw [h1]; exact hk) (by rw [h1, hl])
  rw [h1, hl] at this
  exact this
theorem alone_text {a b : Nat} (hab : a < b) (hb : b ≤ l.length) (hn : ∀ j, a ≤ j → j < b → (TK (l.drop j)).1 = 0) : AloneT l (1, a, b) := by
  show SC ((l.drop a).take (b - a)) = [(1, 0, b - a)]
  have hl : ((l.drop a).take (b - a)).length = b - a := by rw [List.length_take, List.length_drop]; omega
  unfold SC
  rw [sc_texts _ (at_ := 0) (text := 0) rfl (Nat.le_refl _) (Nat.zero_le _) (fun j _ hj => ?_), hl, if_pos (by omega)]
  rw [hl] at hj
  refine Decidable.byContradiction fun h => ?_
  have e : l.drop (a + j) = ((l.drop a).take (b - a)).drop j ++ l.drop b := by
    rw [List.drop_take, List.drop_drop]
    conv => lhs; rw [← List.take_append_drop (b - a - j) (l.drop (a + j))]
    rw [List.drop_drop, show a + j + (b - a - j) = b by omega]
  have h2 := TK_app _ (l.drop b) h
  rw [← e] at h2
  exact h2 (hn (a + j) (by omega) (by omega))
theorem sc_alone : ∀ d {at_ text : Nat}, l.length - at_ = d → text ≤ at_ → at_ ≤ l.length → (∀ j, text ≤ j → j < at_ → (TK (l.drop j)).1 = 0) → ∀ x ∈ scG l at_ text, AloneT l x := by
  intro d
  induction d using Nat.strongRecOn with
  | _ d ih =>
    intro at_ text hd h1 h2 hn x hx
    by_cases h : at_ < l.length
    · by_cases hk : (TK (l.drop at_)).1 = 0
      · rw [scG_text h hk] at hx
        refine ih _ (by omega) rfl (by omega) (by omega) (fun j h3 h4 => ?_) x hx
        rcases Nat.lt_or_ge j at_ with h5 | h5
        · exact hn j h3 h5
        · obtain rfl : j = at_ := by omega
          exact hk
      · have hb := TK_drop hk
        rw [scG_tok h hk] at hx
        rcases List.mem_append.1 hx with hx | hx
        · by_cases ht : text < at_
          · rw [if_pos ht] at hx
            simp at hx
            subst hx
            exact alone_text ht h2 hn
          · rw [if_neg ht] at hx; simp at hx
        · rcases List.mem_cons.1 hx with rfl | hx
          · exact alone_tok hk
          · exact ih _ (by omega) rfl (Nat.le_refl _) (by omega) (fun j h3 h4 => by omega) x hx
    · rw [scG_end h] at hx
      obtain rfl : at_ = l.length := by omega
      by_cases ht : text < l.length
      · rw [if_pos ht] at hx
        simp at hx
        subst hx
        exact alone_text ht (Nat.le_refl _) hn
      · rw [if_neg ht] at hx; simp at hx
theorem SC_alone (l : List UInt8) : ∀ x ∈ SC l, AloneT l x := sc_alone _ rfl (Nat.le_refl _) (Nat.zero_le _) (fun j _ h => by omega)
end

/-! ### lines -/
def shift (n : Nat) (x : Tok) : Tok := (x.1, x.2.1 + n, x.2.2 + n)
theorem scG_shift {u b : List UInt8} : ∀ d {at_ text : Nat}, b.length - at_ = d → text ≤ at_ → at_ ≤ b.length → scG (u ++ b) (at_ + u.length) (text + u.length) = (scG b at_ text).map (shift u.length) := by
  intro d
  induction d using Nat.strongRecOn with
  | _ d ih =>
    intro at_ text hd h1 h2
    have e : (u ++ b).drop (at_ + u.length) = b.drop at_ := by
      rw [Nat.add_comm, List.drop_length_add_append]
    have hl : (u ++ b).length = b.length + u.length := by rw [List.length_append]; omega
    by_cases h : at_ < b.length
    · by_cases hk : (TK (b.drop at_)).1 = 0
      · rw [scG_text (by omega) (by rw [e]; exact hk), scG_text h hk, show at_ + u.length + 1 = at_ + 1 + u.length by omega]
        exact ih _ (by omega) rfl (by omega) (by omega)
      · have hb := TK_drop hk
        rw [scG_tok (by omega) (by rw [e]; exact hk), scG_tok h hk, e, show at_ + u.length + (TK (b.drop at_)).2 = at_ + (TK (b.drop at_)).2 + u.length by omega]
        rw [ih _ (by omega) rfl (Nat.le_refl _) (by omega)]
        by_cases ht : text < at_
        · rw [if_pos ht, if_pos (by omega)]
          simp [shift]
        · rw [if_neg ht, if_neg (by omega)]
          simp [shift]
    · rw [scG_end (by omega), scG_end h, hl]
      by_cases ht : text < b.length
      · rw [if_pos ht, if_pos (by omega)]
        simp [shift]
      · rw [if_neg ht, if_neg (by omega)]
        rfl
theorem TK_nlone : TK [10] = (2, 1) := rfl
theorem scG_lines {a b : List UInt8} (h1 : ∀ j, j ≤ a.length → pr sCm ((a ++ [10]).drop j) = false) (h2 : ∀ j, j ≤ a.length → pr sNo ((a ++ [10]).drop j) = false) :
    ∀ d {at_ text : Nat}, a.length + 1 - at_ = d → text ≤ at_ → at_ ≤ a.length ∨ text = at_ → at_ ≤ a.length + 1 →
    scG (a ++ [10] ++ b) at_ text = scG (a ++ [10]) at_ text ++ (SC b).map (shift (a.length + 1)) := by
  intro d
  induction d using Nat.strongRecOn with
  | _ d ih =>
    intro at_ text hd ht hta h3
    have hl1 : (a ++ [10]).length = a.length + 1 := by simp
    have hl2 : (a ++ [10] ++ b).length = a.length + 1 + b.length := by simp; omega
    by_cases h : at_ < a.length + 1
    · have hT : TK ((a ++ [10] ++ b).drop at_) = TK ((a ++ [10]).drop at_) := by
        have e1 : (a ++ [10]).drop at_ = a.drop at_ ++ [10] := by rw [List.drop_append_of_le_length (by omega)]
        have e2 : (a ++ [10] ++ b).drop at_ = a.drop at_ ++ 10 :: b := by
          rw [List.append_assoc, List.drop_append_of_le_length (by omega)]
          rfl
        have q1 := h1 at_ (by omega)
        have q2 := h2 at_ (by omega)
        rw [e1] at q1 q2
        rw [e1, e2, TK_nl _ _ q1 q2]
      by_cases hk : (TK ((a ++ [10]).drop at_)).1 = 0
      · have hne : at_ ≠ a.length := by
          rintro rfl
          rw [List.drop_append_of_le_length (Nat.le_refl _), List.drop_length, List.nil_append, TK_nlone] at hk
          cases hk
        rw [scG_text (by omega) (by rw [hT]; exact hk), scG_text (by omega) hk]
        exact ih _ (by omega) rfl (by omega) (.inl (by omega)) (by omega)
      · have hb := TK_drop hk
        rw [hl1] at hb
        rw [scG_tok (by omega) (by rw [hT]; exact hk), scG_tok (l := a ++ [10]) (by omega) hk, hT]
        rw [ih _ (by omega) rfl (Nat.le_refl _) (.inr rfl) (by omega)]
        simp
    · obtain rfl : at_ = a.length + 1 := by omega
      obtain rfl : text = a.length + 1 := by omega
      have := scG_shift (u := a ++ [10]) (b := b) _ (at_ := 0) (text := 0) rfl (Nat.le_refl _) (Nat.zero_le _)
      rw [hl1, Nat.zero_add] at this
      rw [this, scG_end (l := a ++ [10]) (by omega), if_neg (by omega)]
      rfl
theorem SC_lines {a b : List UInt8} (h1 : ∀ j, j ≤ a.length → pr sCm ((a ++ [10]).drop j) = false) (h2 : ∀ j, j ≤ a.length → pr sNo ((a ++ [10]).drop j) = false) :
    SC (a ++ [10] ++ b) = SC (a ++ [10]) ++ (SC b).map (shift (a.length + 1)) :=
  scG_lines h1 h2 _ rfl (Nat.le_refl _) (.inl (Nat.zero_le _)) (Nat.zero_le _)
end Go.Proofs.Ytpcnfblpoepmbaa
