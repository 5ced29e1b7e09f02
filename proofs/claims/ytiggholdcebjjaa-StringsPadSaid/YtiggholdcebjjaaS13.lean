/- The walks of padding, pad, PadLeft and PadRight, program and reference. -/
import Derived.Test.YtiggholdcebjjaaS10
import Derived.Test.YtiggholdcebjjaaSPlain7
import Derived.Test.YtiggholdcebjjaaShelf2
namespace Go.Proofs.Ytiggholdcebjjaa
open Go.RowKit
set_option linter.unusedSimpArgs false
set_option linter.unusedVariables false

theorem empty_toList : (ByteArray.empty).toList = [] := by rw [ByteArray.toList_eq]; rfl
theorem size_empty {f : ByteArray} (h : f.size = 0) : f = ByteArray.empty := by rcases f with ⟨⟨l⟩⟩; simp [ByteArray.size] at h; subst h; rfl
theorem nonempty_list {f : ByteArray} (h : f.size ≠ 0) : f.toList.isEmpty = false := by
  rw [Bool.eq_false_iff]
  intro h1
  rw [List.isEmpty_iff, ByteArray.toList_eq] at h1
  exact h (by have : f.data.toList.length = 0 := by rw [h1]; rfl
              simpa using this)

theorem pad_triv (s f : ByteArray) (n : Int) (w : World) (hs : s.size ≤ 400) (h : f.size = 0 ∨ n ≤ (NR s : Int)) :
    Calls Try.prog 43 #[.string s, .int .i64 n, .string f] w fun e w' => e = .returned (.tuple #[.string ByteArray.empty, .bool true]) ∧ Below w.heap.size w w' := by
  by_cases h1 : f.size = 0
  · obtain rfl := size_empty h1
    go_enter Try.func43, Try.ntmps43
    go_wp2
    go_ret2
    exact ⟨rfl, Below.refl _ _⟩
  · have he := nonempty_list h1
    have h2 : n ≤ (NR s : Int) := by omega
    clear h h1
    have HL : Hid (∀ W, Calls Try.prog 14 #[.string s] W fun e w' => e = .returned (.int .i64 (NR s : Int)) ∧ Below W.heap.size W w') := Lib.hid fun W => length_any s W (by omega)
    generalize NR s = N at *
    go_enter Try.func43, Try.ntmps43
    go_wp2_with (first | (go_at_call 14; ((with_reducible refine (HL.out _).mono ?_); rintro e w1 ⟨rfl, hb1⟩)))
    go_ret2
    exact ⟨rfl, hb1⟩
theorem pad_big (s f : ByteArray) (d : Nat) (w : World) (hs : s.size ≤ 400) (hf : f.size ≠ 0) (hd : 32768 < d) (hd9 : (NR s : Int) + (d : Int) ≤ 9223372036854775807) :
    Calls Try.prog 43 #[.string s, .int .i64 ((NR s : Int) + (d : Int)), .string f] w fun e w' => e = .returned (.tuple #[.string ByteArray.empty, .bool false]) ∧ Below w.heap.size w w' := by
  have he := nonempty_list hf
  have HL : Hid (∀ W, Calls Try.prog 14 #[.string s] W fun e w' => e = .returned (.int .i64 (NR s : Int)) ∧ Below W.heap.size W w') := Lib.hid fun W => length_any s W (by omega)
  generalize NR s = N at *
  obtain ⟨n, hn⟩ : ∃ n : Int, n = (N : Int) + (d : Int) := ⟨_, rfl⟩
  rw [← hn]
  have h2 : ¬ (n ≤ (N : Int)) := by omega
  have h3 : IntKind.i64.wrap (n - (N : Int)) = (d : Int) := by rw [IntKind.wrap_i64]; omega
  have h3' : n - (N : Int) = (d : Int) := by omega
  have h4 : (32768 : Int) < (d : Int) := by omega
  have hd8 : (d : Int) ≤ 9223372036854775807 := by omega
  have hd7 : wrap64 (d : Int) = (d : Int) := by
    have := IntKind.wrap_i64 (d : Int)
    unfold wrap64
    omega
  clear hf hd hn hd9
  have hx := Below.refl w.heap.size w
  go_enter Try.func43, Try.ntmps43
  go_wp2_with (first | (go_at_call 14; ((with_reducible refine (HL.out _).mono ?_); rintro e wn ⟨rfl, hbn⟩; replace hx := below_call hx hbn; clear hbn)))
  go_ret2
  exact ⟨rfl, hx⟩
set_option maxRecDepth 100000 in
set_option maxHeartbeats 1600000 in
theorem pad_some (s f : ByteArray) (d : Nat) (w : World) (hs : s.size ≤ 400) (hf : f.size ≠ 0) (hf2 : f.size ≤ 50) (hd0 : 0 < d) (hd : d ≤ 32768) :
    Calls Try.prog 43 #[.string s, .int .i64 ((NR s : Int) + (d : Int)), .string f] w fun e w' => e = .returned (.tuple #[.string (PD f d), .bool (decide (((rep f (d / NR f)).size : Int) ≤ 32768))]) ∧ Below w.heap.size w w' := by
  have he := nonempty_list hf
  have hK := NR_pos hf
  have hNR := NR_le s
  have hKf := NR_le f
  have hl := offs_len f
  have hr := Nat.mod_lt d hK
  have hrO := O_size (s := f) (k := d % NR f) (by omega)
  have hPD : PD f d = rep f (d / NR f) ++ f.extract 0 (O f (d % NR f)) := rfl
  have hq9 : d / NR f ≤ d := Nat.div_le_self _ _
  have hrs : f.size * (d / NR f) ≤ 50 * 32768 := Nat.mul_le_mul hf2 (by omega)
  have HL : Hid (∀ W, Calls Try.prog 14 #[.string s] W fun e w' => e = .returned (.int .i64 (NR s : Int)) ∧ Below W.heap.size W w') := Lib.hid fun W => length_any s W (by omega)
  have HR : Hid (∀ W, Calls Try.prog 50 #[.string f, .int .i64 ((d / NR f : Nat) : Int)] W fun e w' => e = .returned (.string (rep f (d / NR f))) ∧ Below W.heap.size W w') := Lib.hid fun W => Try.strings_Repeat f (d / NR f) W (by omega) (by omega)
  have HO : Hid (∀ W, Calls Try.prog 35 #[.string f] W fun e w' => ∃ A c, e = .returned (.slice A (offs f).length c) ∧ OwR RI 1 w' W.heap.size 3 A (offs f).length c (offs f) ∧ Below W.heap.size W w') := Lib.hid fun W => offsets_any f W (by omega)
  have hsr := size_rep (f := f) (d / NR f)
  have hse : (f.extract 0 (O f (d % NR f))).size ≤ 50 := by rw [ByteArray.size_extract]; omega
  have f1 : (d : Int) / (NR f : Int) = ((d / NR f : Nat) : Int) := by simp
  have f2 : (d : Int) % (NR f : Int) = ((d % NR f : Nat) : Int) := by simp
  have hOr : O f (d % NR f) = (offs f).getD (d % NR f) 0 := rfl
  obtain ⟨L, hL⟩ : ∃ L, L = offs f := ⟨_, rfl⟩
  rw [← hL] at hl hOr HO
  rw [hl] at HO
  have hz : (rep f (d / NR f)).size ≤ 1700000 := by rw [hsr, Nat.mul_comm]; omega
  generalize rep f (d / NR f) = R at *
  generalize hx' : f.extract 0 (O f (d % NR f)) = x at *
  generalize O f (d % NR f) = o at *
  generalize d / NR f = q at *
  generalize d % NR f = r at *
  generalize NR f = K at *
  generalize NR s = N at *
  have HPD := Lib.hid hPD
  have HOR := Lib.hid hOr.symm
  have q9 : (q : Int) ≤ 32768 := by omega
  have q8 : (0 : Int) ≤ (q : Int) := by omega
  have q7 : wrap64 (q : Int) = (q : Int) := by unfold wrap64; omega
  clear hPD hOr hL hsr hq9
  obtain ⟨n, hn⟩ : ∃ n : Int, n = (N : Int) + (d : Int) := ⟨_, rfl⟩
  rw [← hn]
  have h2 : ¬ (n ≤ (N : Int)) := by omega
  have h3 : IntKind.i64.wrap (n - (N : Int)) = (d : Int) := by rw [IntKind.wrap_i64]; omega
  have h3' : n - (N : Int) = (d : Int) := by omega
  have h4 : ¬ (32768 : Int) < (d : Int) := by omega
  have k0 : (0 : Int) ≤ (K : Int) := by omega
  have k1 : ((K : Int) == 0) = false := by simp; omega
  have k2 : IntKind.i64.wrap ((K : Int) + 1 - 1) = (K : Int) := by rw [IntKind.wrap_i64]; omega
  have k3 : (K : Int) + 1 - 1 = (K : Int) := by omega
  have d0 : (0 : Int) ≤ (d : Int) := by omega
  have f1' : (d : Int).tdiv (K : Int) = (q : Int) := by rw [Int.tdiv_eq_ediv_of_nonneg d0]; exact f1
  have f2' : (d : Int).tmod (K : Int) = (r : Int) := by rw [Int.tmod_eq_emod_of_nonneg d0]; exact f2
  have r0 : (0 : Int) ≤ (r : Int) := by omega
  have r1 : (r : Int) < (K : Int) + 1 := by omega
  have r1' : (r : Int) < ((K + 1 : Nat) : Int) := by omega
  have o0 : (0 : Int) ≤ (o : Int) := by omega
  have o1 : (o : Int) ≤ (f.size : Int) := by omega
  have z1 : ¬ 9223372036854775807 < R.size + x.size := by omega
  have hrk : r < K + 1 := by omega
  clear hf hn hse hz
  have hx := Below.refl w.heap.size w
  go_enter Try.func43, Try.ntmps43
  go_wp2_with (first
    | (go_at_call 14; ((with_reducible refine (HL.out _).mono ?_); rintro e wn ⟨rfl, hbn⟩; replace hx := below_call hx hbn; clear hbn))
    | (go_at_call 50; ((with_reducible refine (HR.out _).mono ?_); rintro e wn ⟨rfl, hbn⟩; replace hx := below_call hx hbn; (have cj2 := (hbn.cell (p := ⟨bb, off + r, none⟩) hbb).trans cj); clear hbn cj))
    | (go_at_call 35; ((with_reducible refine (HO.out _).mono ?_); rintro e wn ⟨A, c, rfl, ho, hbn⟩; replace hx := below_call hx hbn; clear hbn; obtain ⟨bb, off, rfl, hbb, hcc⟩ := RdI.opened ho.rd (Nat.succ_pos _); (have cj := hcc r hrk); rw [HOR.out] at cj; clear hcc ho)))
  go_ret2
  exact ⟨by rw [HPD.out]; rfl, hx⟩
end Go.Proofs.Ytiggholdcebjjaa
