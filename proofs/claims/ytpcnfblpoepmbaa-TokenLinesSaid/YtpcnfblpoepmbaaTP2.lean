/- Plain law of the tokens: what is known of the token that a text begins with. -/
import Derived.Test.YtpcnfblpoepmbaaTP1
namespace Go.Proofs.Ytpcnfblpoepmbaa
set_option linter.unusedSimpArgs false
set_option linter.unusedVariables false

theorem tagO_cases (l : List UInt8) : (tagO l = (0, 0) ∧ pr o1 l = false ∧ pr o2 l = false ∧ pr o3 l = false) ∨ (pr o1 l = true ∧ tagO l = (1, 11)) ∨ (pr o2 l = true ∧ tagO l = (2, 13)) ∨ (pr o3 l = true ∧ tagO l = (3, 13)) := by
  unfold tagO
  cases h1 : pr o1 l <;> cases h2 : pr o2 l <;> cases h3 : pr o3 l <;> simp
theorem tagC_cases (l : List UInt8) : (tagC l = (0, 0) ∧ pr c1 l = false ∧ pr c2 l = false ∧ pr c3 l = false) ∨ (pr c1 l = true ∧ tagC l = (1, 12)) ∨ (pr c2 l = true ∧ tagC l = (2, 14)) ∨ (pr c3 l = true ∧ tagC l = (3, 14)) := by
  unfold tagC
  cases h1 : pr c1 l <;> cases h2 : pr c2 l <;> cases h3 : pr c3 l <;> simp
def TagText (p : List UInt8) (k : Nat) : Prop := (p = o1 ∧ k = 11) ∨ (p = o2 ∧ k = 11) ∨ (p = o3 ∧ k = 11) ∨ (p = c1 ∧ k = 12) ∨ (p = c2 ∧ k = 12) ∨ (p = c3 ∧ k = 12)
theorem ANG_cases (l : List UInt8) :
    (pr sCm l = true ∧ Lib.index (l.drop 4) sCe < 0 ∧ ANG l = (9, l.length)) ∨
    (pr sCm l = true ∧ ∃ k : Nat, Lib.index (l.drop 4) sCe = k ∧ ANG l = (9, k + 7)) ∨
    (pr sNo l = true ∧ ∃ k : Nat, Lib.index (l.drop 8) sNe = k ∧ ANG l = (10, k + 17)) ∨
    (∃ p k, TagText p k ∧ pr p l = true ∧ ANG l = (k, p.length)) ∨
    (ANG l = (0, 0)) := by
  unfold ANG
  cases h1 : pr sCm l
  · rw [if_neg (by simp)]
    by_cases h2 : pr sNo l = true ∧ 0 ≤ Lib.index (l.drop 8) sNe
    · rw [if_pos h2]
      refine .inr (.inr (.inl ⟨h2.1, (Lib.index (l.drop 8) sNe).toNat, by omega, ?_⟩))
      congr 1
      omega
    · rw [if_neg h2]
      rcases tagO_cases l with ⟨e, _⟩ | ⟨h, e⟩ | ⟨h, e⟩ | ⟨h, e⟩
      · rw [e, if_neg (by decide)]
        rcases tagC_cases l with ⟨e, _⟩ | ⟨h, e⟩ | ⟨h, e⟩ | ⟨h, e⟩
        · rw [e, if_neg (by decide)]
          exact .inr (.inr (.inr (.inr rfl)))
        · rw [e, if_pos (by decide)]
          exact .inr (.inr (.inr (.inl ⟨_, 12, .inr (.inr (.inr (.inl ⟨rfl, rfl⟩))), h, rfl⟩)))
        · rw [e, if_pos (by decide)]
          exact .inr (.inr (.inr (.inl ⟨_, 12, .inr (.inr (.inr (.inr (.inl ⟨rfl, rfl⟩)))), h, rfl⟩)))
        · rw [e, if_pos (by decide)]
          exact .inr (.inr (.inr (.inl ⟨_, 12, .inr (.inr (.inr (.inr (.inr ⟨rfl, rfl⟩)))), h, rfl⟩)))
      · rw [e, if_pos (by decide)]
        exact .inr (.inr (.inr (.inl ⟨_, 11, .inl ⟨rfl, rfl⟩, h, rfl⟩)))
      · rw [e, if_pos (by decide)]
        exact .inr (.inr (.inr (.inl ⟨_, 11, .inr (.inl ⟨rfl, rfl⟩), h, rfl⟩)))
      · rw [e, if_pos (by decide)]
        exact .inr (.inr (.inr (.inl ⟨_, 11, .inr (.inr (.inl ⟨rfl, rfl⟩)), h, rfl⟩)))
  · rw [if_pos rfl]
    by_cases h2 : Lib.index (l.drop 4) sCe < 0
    · rw [if_pos h2]
      exact .inl ⟨rfl, h2, rfl⟩
    · rw [if_neg h2]
      refine .inr (.inl ⟨rfl, (Lib.index (l.drop 4) sCe).toNat, by omega, ?_⟩)
      congr 1
      omega
theorem TK_cases (l : List UInt8) :
    (∃ t, l = 60 :: t ∧ TK l = ANG l) ∨
    (∃ c t k, l = c :: t ∧ 2 ≤ runL c l ∧ ((c = 123 ∧ k = 3) ∨ (c = 125 ∧ k = 4)) ∧ TK l = (k, runL c l)) ∨
    (∃ c t k, l = c :: t ∧ 2 ≤ runL c l ∧ ((c = 91 ∧ k = 5) ∨ (c = 93 ∧ k = 6)) ∧ TK l = (k, 2)) ∨
    (∃ c t k, l = c :: t ∧ ((c = 124 ∧ k = 7) ∨ (c = 61 ∧ k = 8) ∨ (c = 10 ∧ k = 2)) ∧ TK l = (k, 1)) ∨
    (TK l = (0, 0)) := by
  cases l with
  | nil => exact .inr (.inr (.inr (.inr rfl)))
  | cons c t =>
    by_cases h1 : c = 60
    · subst h1; exact .inl ⟨t, rfl, rfl⟩
    have e1 : TK (c :: t) = if c = 123 then (if 2 ≤ runL 123 (c :: t) then (3, runL 123 (c :: t)) else (0, 0))
        else if c = 125 then (if 2 ≤ runL 125 (c :: t) then (4, runL 125 (c :: t)) else (0, 0))
        else if c = 91 then (if 2 ≤ runL 91 (c :: t) then (5, 2) else (0, 0))
        else if c = 93 then (if 2 ≤ runL 93 (c :: t) then (6, 2) else (0, 0))
        else if c = 124 then (7, 1) else if c = 61 then (8, 1) else if c = 10 then (2, 1) else (0, 0) := by
      show (if c = 60 then _ else _) = _
      rw [if_neg h1]
    rw [e1]
    clear e1
    by_cases h2 : c = 123
    · subst h2
      rw [if_pos rfl]
      by_cases hr : 2 ≤ runL 123 (123 :: t)
      · rw [if_pos hr]; exact .inr (.inl ⟨123, t, 3, rfl, hr, .inl ⟨rfl, rfl⟩, rfl⟩)
      · rw [if_neg hr]; exact .inr (.inr (.inr (.inr rfl)))
    rw [if_neg h2]
    by_cases h3 : c = 125
    · subst h3
      rw [if_pos rfl]
      by_cases hr : 2 ≤ runL 125 (125 :: t)
      · rw [if_pos hr]; exact .inr (.inl ⟨125, t, 4, rfl, hr, .inr ⟨rfl, rfl⟩, rfl⟩)
      · rw [if_neg hr]; exact .inr (.inr (.inr (.inr rfl)))
    rw [if_neg h3]
    by_cases h4 : c = 91
    · subst h4
      rw [if_pos rfl]
      by_cases hr : 2 ≤ runL 91 (91 :: t)
      · rw [if_pos hr]; exact .inr (.inr (.inl ⟨91, t, 5, rfl, hr, .inl ⟨rfl, rfl⟩, rfl⟩))
      · rw [if_neg hr]; exact .inr (.inr (.inr (.inr rfl)))
    rw [if_neg h4]
    by_cases h5 : c = 93
    · subst h5
      rw [if_pos rfl]
      by_cases hr : 2 ≤ runL 93 (93 :: t)
      · rw [if_pos hr]; exact .inr (.inr (.inl ⟨93, t, 6, rfl, hr, .inr ⟨rfl, rfl⟩, rfl⟩))
      · rw [if_neg hr]; exact .inr (.inr (.inr (.inr rfl)))
    rw [if_neg h5]
    by_cases h6 : c = 124
    · subst h6; rw [if_pos rfl]; exact .inr (.inr (.inr (.inl ⟨124, t, 7, rfl, .inl ⟨rfl, rfl⟩, rfl⟩)))
    rw [if_neg h6]
    by_cases h7 : c = 61
    · subst h7; rw [if_pos rfl]; exact .inr (.inr (.inr (.inl ⟨61, t, 8, rfl, .inr (.inl ⟨rfl, rfl⟩), rfl⟩)))
    rw [if_neg h7]
    by_cases h8 : c = 10
    · subst h8; rw [if_pos rfl]; exact .inr (.inr (.inr (.inl ⟨10, t, 2, rfl, .inr (.inr ⟨rfl, rfl⟩), rfl⟩)))
    rw [if_neg h8]
    exact .inr (.inr (.inr (.inr rfl)))

theorem TK_bound (l : List UInt8) (h : (TK l).1 ≠ 0) : 0 < (TK l).2 ∧ (TK l).2 ≤ l.length ∧ 2 ≤ (TK l).1 ∧ (TK l).1 ≤ 12 := by
  rcases TK_cases l with ⟨t, e, e1⟩ | ⟨c, t, k, e, hr, hk, e1⟩ | ⟨c, t, k, e, hr, hk, e1⟩ | ⟨c, t, k, e, hk, e1⟩ | e1
  · rw [e1] at h ⊢
    rcases ANG_cases l with ⟨h1, h2, e2⟩ | ⟨h1, k, h2, e2⟩ | ⟨h1, k, h2, e2⟩ | ⟨p, k, hp, h1, e2⟩ | e2
    · have := pr_len h1
      rw [e2]; simp at this ⊢; omega
    · have h3 := ix_len h2
      have := pr_len h1
      rw [e2]; simp at this h3 ⊢; omega
    · have h3 := ix_len h2
      have := pr_len h1
      rw [e2]; simp at this h3 ⊢; omega
    · have := pr_len h1
      rw [e2]
      rcases hp with ⟨rfl, rfl⟩ | ⟨rfl, rfl⟩ | ⟨rfl, rfl⟩ | ⟨rfl, rfl⟩ | ⟨rfl, rfl⟩ | ⟨rfl, rfl⟩ <;> simp at this ⊢ <;> omega
    · rw [e2] at h; exact absurd rfl h
  · have := runL_le c l
    rw [e1]; simp; omega
  · have := runL_le c l
    rw [e1]; simp; omega
  · subst e
    rw [e1]; simp; omega
  · rw [e1] at h; exact absurd rfl h
theorem TK_alone (l : List UInt8) (h : (TK l).1 ≠ 0) : TK (l.take (TK l).2) = TK l := by
  have hb := TK_bound l h
  rcases TK_cases l with ⟨t, e, e1⟩ | ⟨c, t, k, e, hr, hk, e1⟩ | ⟨c, t, k, e, hr, hk, e1⟩ | ⟨c, t, k, e, hk, e1⟩ | e1
  · obtain ⟨n, hn⟩ : ∃ n, (TK l).2 = n + 1 := ⟨(TK l).2 - 1, by omega⟩
    have e3 : TK (l.take (TK l).2) = ANG (l.take (TK l).2) := by
      rw [hn, e, List.take_succ_cons]
      rfl
    rw [e3]
    rw [e1] at h ⊢
    rcases ANG_cases l with ⟨h1, h2, e2⟩ | ⟨h1, k, h2, e2⟩ | ⟨h1, k, h2, e2⟩ | ⟨p, k, hp, h1, e2⟩ | e2
    · rw [e2]
      show ANG (l.take l.length) = _
      rw [List.take_length, e2]
    · rw [e2]
      show ANG (l.take (k + 7)) = _
      have h3 := ix_take h2
      have e4 : (l.take (k + 7)).drop 4 = (l.drop 4).take (k + sCe.length) := by rw [List.drop_take]; rfl
      unfold ANG
      rw [if_pos (pr_take h1 (by simp)), e4, h3, if_neg (by omega)]
      congr 1
      simp
      omega
    · rw [e2]
      show ANG (l.take (k + 17)) = _
      have h3 := ix_take h2
      have e4 : (l.take (k + 17)).drop 8 = (l.drop 8).take (k + sNe.length) := by rw [List.drop_take]; rfl
      have h5 : pr sNo (l.take (k + 17)) = true := pr_take h1 (by simp)
      have h6 : pr sCm (l.take (k + 17)) = false := pr_not h5 ⟨1, by decide, by decide, by decide⟩
      unfold ANG
      rw [if_neg (by rw [h6]; simp), e4, h3, if_pos ⟨h5, by omega⟩]
      congr 1
      simp
      omega
    · rw [e2]
      show ANG (l.take p.length) = _
      rw [pr_take_self h1]
      rcases hp with ⟨rfl, rfl⟩ | ⟨rfl, rfl⟩ | ⟨rfl, rfl⟩ | ⟨rfl, rfl⟩ | ⟨rfl, rfl⟩ | ⟨rfl, rfl⟩ <;> decide +kernel
    · rw [e2] at h; exact absurd rfl h
  · rw [e1]
    show TK (l.take (runL c l)) = _
    rw [runL_take]
    obtain ⟨n, hn⟩ : ∃ n, runL c l = n + 1 := ⟨runL c l - 1, by omega⟩
    have hrr := runL_rep c (runL c l)
    rw [hn] at hr hrr ⊢
    rw [List.replicate_succ] at hrr ⊢
    rcases hk with ⟨rfl, rfl⟩ | ⟨rfl, rfl⟩
    · show (if (2 ≤ runL 123 (123 :: List.replicate n 123)) then (3, runL 123 (123 :: List.replicate n 123)) else (0, 0)) = _
      rw [hrr, if_pos hr]
    · show (if (2 ≤ runL 125 (125 :: List.replicate n 125)) then (4, runL 125 (125 :: List.replicate n 125)) else (0, 0)) = _
      rw [hrr, if_pos hr]
  · rw [e1]
    show TK (l.take 2) = _
    have h2 : l.take 2 = [c, c] := by
      have h3 := congrArg (List.take 2) (runL_take c l)
      rw [List.take_take, Nat.min_eq_left hr] at h3
      rw [h3, List.take_replicate, Nat.min_eq_left hr]
      rfl
    rw [h2]
    rcases hk with ⟨rfl, rfl⟩ | ⟨rfl, rfl⟩ <;> decide
  · rw [e1]
    subst e
    show TK ((c :: t).take 1) = _
    rcases hk with ⟨rfl, rfl⟩ | ⟨rfl, rfl⟩ | ⟨rfl, rfl⟩ <;> rfl
  · rw [e1] at h; exact absurd rfl h
theorem ANG_ne (l : List UInt8) (h : pr sCm l = true ∨ (pr sNo l = true ∧ 0 ≤ Lib.index (l.drop 8) sNe) ∨ ∃ p k, TagText p k ∧ pr p l = true) : (ANG l).1 ≠ 0 := by
  unfold ANG
  cases h1 : pr sCm l
  · rw [if_neg (by simp)]
    by_cases h2 : pr sNo l = true ∧ 0 ≤ Lib.index (l.drop 8) sNe
    · rw [if_pos h2]; exact Nat.succ_ne_zero 9
    · rw [if_neg h2]
      rcases h with h | h | ⟨p, k, hp, h⟩
      · rw [h1] at h; cases h
      · exact absurd h h2
      · rcases tagO_cases l with ⟨e, a1, a2, a3⟩ | ⟨_, e⟩ | ⟨_, e⟩ | ⟨_, e⟩
        · rw [e, if_neg (by decide)]
          rcases tagC_cases l with ⟨e, b1, b2, b3⟩ | ⟨_, e⟩ | ⟨_, e⟩ | ⟨_, e⟩
          · exfalso
            rcases hp with ⟨rfl, rfl⟩ | ⟨rfl, rfl⟩ | ⟨rfl, rfl⟩ | ⟨rfl, rfl⟩ | ⟨rfl, rfl⟩ | ⟨rfl, rfl⟩ <;> simp_all
          all_goals rw [e, if_pos (by decide)]; decide
        all_goals rw [e, if_pos (by decide)]; decide
  · rw [if_pos rfl]
    simp
theorem TK_app (l r : List UInt8) (h : (TK l).1 ≠ 0) : (TK (l ++ r)).1 ≠ 0 := by
  rcases TK_cases l with ⟨t, e, e1⟩ | ⟨c, t, k, e, hr, hk, e1⟩ | ⟨c, t, k, e, hr, hk, e1⟩ | ⟨c, t, k, e, hk, e1⟩ | e1
  · have e3 : TK (l ++ r) = ANG (l ++ r) := by rw [e]; rfl
    rw [e3]
    rw [e1] at h
    apply ANG_ne
    rcases ANG_cases l with ⟨h1, h2, e2⟩ | ⟨h1, k, h2, e2⟩ | ⟨h1, k, h2, e2⟩ | ⟨p, k, hp, h1, e2⟩ | e2
    · exact .inl (pr_app h1)
    · exact .inl (pr_app h1)
    · refine .inr (.inl ⟨pr_app h1, ?_⟩)
      have := pr_len h1
      rw [List.drop_append_of_le_length (by simpa using this)]
      exact ix_app (by omega)
    · exact .inr (.inr ⟨p, k, hp, pr_app h1⟩)
    · rw [e2] at h; exact absurd rfl h
  · have := runL_app (c := c) (l := l) (r := r)
    have h2 : 2 ≤ runL c (l ++ r) := by omega
    rw [e] at h2 ⊢
    rcases hk with ⟨rfl, rfl⟩ | ⟨rfl, rfl⟩
    · show (if (2 ≤ runL 123 (123 :: t ++ r)) then (3, runL 123 (123 :: t ++ r)) else (0, 0)).1 ≠ 0
      rw [if_pos h2]; exact Nat.succ_ne_zero 2
    · show (if (2 ≤ runL 125 (125 :: t ++ r)) then (4, runL 125 (125 :: t ++ r)) else (0, 0)).1 ≠ 0
      rw [if_pos h2]; exact Nat.succ_ne_zero 3
  · have := runL_app (c := c) (l := l) (r := r)
    have h2 : 2 ≤ runL c (l ++ r) := by omega
    rw [e] at h2 ⊢
    rcases hk with ⟨rfl, rfl⟩ | ⟨rfl, rfl⟩
    · show (if (2 ≤ runL 91 (91 :: t ++ r)) then (5, 2) else (0, 0)).1 ≠ 0
      rw [if_pos h2]; decide
    · show (if (2 ≤ runL 93 (93 :: t ++ r)) then (6, 2) else (0, 0)).1 ≠ 0
      rw [if_pos h2]; decide
  · rw [e]
    rcases hk with ⟨rfl, rfl⟩ | ⟨rfl, rfl⟩ | ⟨rfl, rfl⟩ <;> exact Nat.succ_ne_zero _
  · rw [e1] at h; exact absurd rfl h
theorem TK_nl (u b : List UInt8) (h1 : pr sCm (u ++ [10]) = false) (h2 : pr sNo (u ++ [10]) = false) : TK (u ++ 10 :: b) = TK (u ++ [10]) := by
  cases u with
  | nil => rfl
  | cons c u =>
    have hA : ANG (c :: u ++ 10 :: b) = ANG (c :: u ++ [10]) := by
      have h1' : pr sCm (c :: u ++ 10 :: b) = false := by rw [pr_nl (by decide)]; exact h1
      have h2' : pr sNo (c :: u ++ 10 :: b) = false := by rw [pr_nl (by decide)]; exact h2
      unfold ANG tagO tagC
      rw [h1, h1', h2, h2', pr_nl (p := o1) (by decide), pr_nl (p := o2) (by decide), pr_nl (p := o3) (by decide), pr_nl (p := c1) (by decide), pr_nl (p := c2) (by decide), pr_nl (p := c3) (by decide)]
      simp
    have r1 := runL_nl (c := 123) (b := b) (by decide) (u := c :: u)
    have r2 := runL_nl (c := 125) (b := b) (by decide) (u := c :: u)
    have r3 := runL_nl (c := 91) (b := b) (by decide) (u := c :: u)
    have r4 := runL_nl (c := 93) (b := b) (by decide) (u := c :: u)
    simp only [List.cons_append] at hA r1 r2 r3 r4 ⊢
    simp only [TK, hA, r1, r2, r3, r4]
end Go.Proofs.Ytpcnfblpoepmbaa
