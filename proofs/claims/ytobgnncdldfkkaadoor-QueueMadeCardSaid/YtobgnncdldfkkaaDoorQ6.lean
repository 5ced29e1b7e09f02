/- The walk of trcref1.Parts. -/
import Derived.Test.YtobgnncdldfkkaaDoorQ5
import Derived.Laws.OwnMore
namespace Go.Proofs.YtobgnncdldfkkaaDoor
open Go.RowKit
set_option linter.unusedSimpArgs false
set_option linter.unusedVariables false

theorem OwS.of_vals {w : World} {base e n : Nat} {v : Value} {L : List ByteArray} (h : w.ownsRow base e 1 v n (L.map Value.string)) : ∃ A c, v = .slice A n c ∧ OwR RS 1 w base e A n c L := by
  obtain ⟨A, c, rfl, h1, h2⟩ := own_shape h
  refine ⟨A, c, rfl, ⟨by have := h.1; rw [List.length_map] at this; omega, h1, h2, _, h, fun k a hk => ?_⟩⟩
  show _ = [Value.string a]
  have hkl : k < L.length := by
    rcases Nat.lt_or_ge k L.length with h3 | h3
    · exact h3
    · rw [List.getElem?_eq_none h3] at hk; cases hk
  rw [Nat.mul_one, List.drop_eq_getElem_cons (by rw [List.length_map]; exact hkl)]
  rw [List.getElem?_eq_getElem hkl] at hk
  simp [Option.some.inj hk]
theorem OwS.vals {w : World} {base e n c : Nat} {A : Option Addr} {L : List ByteArray} (h : OwR RS 1 w base e A n c L) : w.ownsRow base e 1 (.slice A n c) n (L.map Value.string) := by
  obtain ⟨xs, h1, h2⟩ := h.own
  have hl : xs.length = L.length := by rw [h1.1, h.len]; omega
  have : xs = L.map Value.string := by
    apply List.ext_getElem?
    intro k
    rw [List.getElem?_map]
    rcases Nat.lt_or_ge k L.length with h3 | h3
    · have h4 : (xs.drop (k * 1)).take 1 = [Value.string L[k]] := h2 k _ (List.getElem?_eq_getElem h3)
      have h5 := congrArg (fun l : List Value => l[0]?) h4
      simp only [Nat.mul_one, List.getElem?_take, List.getElem?_drop] at h5
      rw [List.getElem?_eq_getElem h3]
      simpa using h5
    · rw [List.getElem?_eq_none h3, List.getElem?_eq_none (by omega)]
      rfl
  rw [← this]
  exact h1
theorem OwS.lit (w : World) (base e : Nat) (u : ByteArray) (hb : base ≤ w.heap.size) : OwR RS 1 (w.alloc (.cells #[.string u] e)) base e (some ⟨w.heap.size, 0, none⟩) 1 1 [u] := by
  have h := World.ownsRow_lit (base := base) (e := e) (size := 1) w #[.string u] 1 hb (by unfold maxLen; omega) rfl
  obtain ⟨A, c, e, ho⟩ := OwS.of_vals (L := [u]) h
  injection e with e1 e2 e3
  subst e1 e3
  exact ho
theorem OwS.block {w : World} {base e n c : Nat} {A : Option Addr} {L : List ByteArray} (h : OwR RS 1 w base e A n c L) (hn : 0 < n) : ∃ g, A = some ⟨g, 0, none⟩ ∧ base ≤ g ∧ g < w.heap.size := by
  rcases (OwS.vals h).2 with ⟨e1, e2⟩ | ⟨g, cap, cur, e1, e2, e3, _⟩
  · injection e1 with _ e3; omega
  · injection e1 with e4 _ _
    refine ⟨g, e4, e2, ?_⟩
    rcases Nat.lt_or_ge g w.heap.size with h1 | h1
    · exact h1
    · rw [Array.getElem?_eq_none h1] at e3; cases e3
theorem OwS.cellAt {w : World} {base e g n c : Nat} {L : List ByteArray} (h : OwR RS 1 w base e (some ⟨g, 0, none⟩) n c L) {k : Nat} (hk : k < n) : w.cell? ⟨g, k, none⟩ = some (.string (L.getD k ByteArray.empty)) ∧ w.frozen? ⟨g, k, none⟩ = false := by
  refine ⟨?_, (OwS.vals h).frozenAt k⟩
  rw [(OwS.vals h).cellAt k (by omega), List.getElem?_map]
  have hk2 : k < L.length := by have := h.len; omega
  simp [List.getD, List.getElem?_eq_getElem hk2]
theorem OwS.stored {w : World} {base e g n c : Nat} {L : List ByteArray} (h : OwR RS 1 w base e (some ⟨g, 0, none⟩) n c L) (k : Nat) (u : ByteArray) : OwR RS 1 (w.setCell ⟨g, k, none⟩ (.string u)) base e (some ⟨g, 0, none⟩) n c (L.set k u) := by
  have h1 := ((OwS.vals h).stored k (.string u)).1
  rw [← List.map_set] at h1
  obtain ⟨A, c2, e1, ho⟩ := OwS.of_vals h1
  injection e1 with e1 e2 e3
  subst e1 e3
  exact ho

set_option maxRecDepth 100000 in
set_option maxHeartbeats 4000000 in
theorem parts_any (s : ByteArray) (w : World) (hs : s.size ≤ 1000) :
    Calls Tryd.prog 48 #[.string s] w fun e w' => ∃ A c, e = .returned (.slice A (PC s).length c) ∧ OwR RS 1 w' w.heap.size 9 A (PC s).length c (PC s) ∧ Below w.heap.size w w' := by
  obtain ⟨i0, hi0, hz0, hz1, hz2⟩ := info_parts str_info
  go_enter Tryd.func48, Tryd.ntmps48
  go_wp2
  go_loopw [3, 4] (fun v3 v4 wr => ∃ (k N : Nat) (A : Option Addr) (c : Nat), k ≤ s.size ∧ v3 = .slice A N c ∧ v4 = .int .i64 k ∧ OwR RS 1 wr w.heap.size 9 A N c (PCt s k) ∧ Below w.heap.size w wr) (fun _ v4 _ => s.size - (intOf v4).toNat)
  case atStart => exact ⟨0, 1, some ⟨w.heap.size, 0, none⟩, 1, Nat.zero_le _, rfl, rfl, by rw [PCt_zero]; exact OwS.lit w _ _ _ (Nat.le_refl _), (Below.refl _ _).alloc (Nat.le_refl _) _⟩
  case round =>
    obtain ⟨k, N, A, c, hk, rfl, rfl, hown, hbw⟩ := hrel
    have hbz := hbw.size
    have hNl := hown.len
    have hpl := PCt_len s k
    have hpp := PCt_pos s k
    have hNb : N ≤ k + 1 := by omega
    by_cases hlt : k < s.size
    · have z0 : (0 : Int) ≤ (k : Int) := by omega
      have z1 : (k : Int) < (s.size : Int) := by omega
      by_cases hc : s[k] = 47
      · have q1 : ((s[k].toNat : Int) == 47) = true := by rw [hc]; rfl
        have HP : Hid (PCt s (k + 1) = PCt s k ++ [ByteArray.empty]) := Lib.hid (PCt_slash hlt hc)
        have HNl := Lib.hid hNl
        clear hc hNl
        generalize PCt s k = L at *
        go_wp2_with (first
          | (at_builtin; go_must (refine wpList_append_r _ rfl (.tmp 16) (.tmp 17) 52 rfl 1 16 w.heap.size 9 i0 (.string ByteArray.empty) RS.stay (by decide) Tryd.underlying52 hi0 hz0 hz1 hz2 rfl (by omega) A N c L rfl (OwS.alloc hown _) _ 1 1 rfl [ByteArray.empty] [.string ByteArray.empty] (Reads.lit (cs := #[.string ByteArray.empty]) rfl) (Fits.one rfl rfl) rfl ?_ ?_ ?_ ?_ ?_; (focus (simp [Value.oneCell'])); (focus (unfold maxLen; omega)); (focus omega); (focus (simp; omega)); intro A3 cc w3 ho3 hg3; (have hb4 := hbw.trans ((Below.alloc (Below.refl w.heap.size _) hbz _).trans hg3.b)); clear hg3)))
        go_roundw
        case rel => exact ⟨k + 1, N + 1, A3, cc, by omega, (by rw [HNl.out]), by go_num, by rw [HP.out]; exact ho3, hb4⟩
        case measure => simp [intOf]; omega
      · have q1 : ((s[k].toNat : Int) == 47) = false := (@u8_eq s[k] 47).trans (decide_eq_false hc)
        have HP : Hid (PCt s (k + 1) = _) := Lib.hid (PCt_byte hlt hc)
        have hsm := PCt_small (s := s) (k := k) ((PCt s k).length - 1)
        rw [← hNl] at HP hsm
        obtain ⟨q, hq⟩ : ∃ q, N = q + 1 := ⟨N - 1, by omega⟩
        have hq1 : N - 1 = q := by omega
        rw [hq1] at HP hsm
        obtain ⟨g, rfl, hg0, hg1⟩ := OwS.block hown (by omega)
        obtain ⟨kc1, kf1⟩ := OwS.cellAt hown (k := q) (by omega)
        have HO := Lib.hid hown
        have hez : (s.extract k (k + 1)).size = 1 := by rw [extract_one hlt]; rfl
        clear hc hpp hpl hNl hown
        generalize (PCt s k).getD q ByteArray.empty = p at *
        have z2 : ¬ (9223372036854775807 : Nat) < p.size + (s.extract k (k + 1)).size := by omega
        have z3 : (k : Int) ≤ (k : Int) + 1 := by omega
        have z4 : (k : Int) + 1 ≤ (s.size : Int) := by omega
        have z5 : ((N : Int) - 1) = (q : Int) := by omega
        have z6 : IntKind.i64.wrap (q : Int) = (q : Int) := IntWalk.i64_in _ (by omega)
        have z7 : (q : Int) < (N : Int) := by omega
        have z8 : (0 : Int) ≤ (q : Int) := by omega
        have z9 : IntKind.i64.wrap ((k : Int) + 1) = (k : Int) + 1 := IntWalk.i64_in _ (by omega)
        have z10 : ((k : Int) + 1).toNat = k + 1 := by omega
        have z11 : (0 : Int) ≤ (k : Int) + 1 := by omega
        clear hq hq1
        have z12 : ¬ (9223372036854775807 : Nat) < p.size + (min (k + 1) s.size - k) := by omega
        have z13 : ¬ (9223372036854775807 : Nat) < p.size + 1 := by omega
        have HPU := Lib.hid HP
        clear HP
        go_wp2_with fail
        go_still_tail 17, (by kernel_rfl)
        go_wp2_with fail
        go_roundw
        case rel => exact ⟨k + 1, N, _, c, by omega, rfl, by go_num, (by rw [HPU.out.out]; have h := OwS.stored HO.out q (p ++ s.extract k (k + 1)); exact ⟨h.len, h.cap, h.max, h.own⟩), (hbw.setCell hg0 _).drew⟩
        case measure => simp [intOf]; omega
    · obtain rfl : k = s.size := by omega
      rw [PCt_all] at *
      have HL := Lib.hid hNl
      clear hNl
      go_wp2
      go_ret
      exact ⟨A, c, by rw [← HL.out]; rfl, by rw [← HL.out]; exact hown, hbw⟩
end Go.Proofs.YtobgnncdldfkkaaDoor
