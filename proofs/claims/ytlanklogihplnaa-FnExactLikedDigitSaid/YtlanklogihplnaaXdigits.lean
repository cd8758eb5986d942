/- digits: lemmas for the proof, no conditions of their own. -/
import Derived.Test.YtlanklogihplnaaXnum
import Derived.Test.YtlanklogihplnaaXlists
import Derived.Test.YtlanklogihplnaaXreadings
import Derived.Test.YtlanklogihplnaaXl01gcd
import Derived.Test.YtlanklogihplnaaXunit
import Derived.Test.YtlanklogihplnaaXeqInt64S
import Derived.Test.YtlanklogihplnaaXtoInt64S
set_option linter.unusedVariables false
set_option linter.unusedSimpArgs false
namespace Go.Proofs.Ytlanklogihplnaa.Eng
open Go Go.RowKit
set_option maxRecDepth 100000
/-- One more last digit. -/
def digit1 (c : List Int) (n : Int) : List Int := c.set (n.natAbs % 10) ((c[n.natAbs % 10]?).getD 0 + 1)
/-- Last digits. -/
def digitsZ (L : List Int) : List Int := L.foldl digit1 [0, 0, 0, 0, 0, 0, 0, 0, 0, 0]
theorem digit1_len (c : List Int) (n : Int) : (digit1 c n).length = c.length := by simp [digit1]
theorem digits_gen : ∀ (L : List Int) (c : List Int), c.length = 10 → (L.foldl digit1 c).length = 10
  | [], c, h => h
  | n :: L, c, h => digits_gen L _ (by rw [digit1_len]; exact h)
theorem digits_len (L : List Int) : (digitsZ L).length = 10 := digits_gen L _ rfl
theorem digits_step {L : List Int} {i : Nat} {a : Int} (ha : L[i]? = some a) : digitsZ (L.take (i + 1)) = digit1 (digitsZ (L.take i)) a := by
  rw [List.take_add_one, ha]; simp [digitsZ, List.foldl_append]
/-- Counts are no more than there are readings. -/
theorem digit1_small {c : List Int} {n : Int} {m : Int} (h : ∀ (j : Nat) x, c[j]? = some x → 0 ≤ x ∧ x ≤ m) (h0 : 0 ≤ m) : ∀ (j : Nat) x, (digit1 c n)[j]? = some x → 0 ≤ x ∧ x ≤ m + 1 := fun j x hx => by
  unfold digit1 at hx
  rw [List.getElem?_set] at hx
  split at hx
  · split at hx
    · obtain rfl := Option.some.inj hx
      rename_i e hlt
      cases hc : c[n.natAbs % 10]? with
      | none => simp; omega
      | some y => have := h _ _ hc; simp; omega
    · simp at hx
  · have := h j x hx; omega
theorem digits_small (L : List Int) : ∀ (j : Nat) x, (digitsZ L)[j]? = some x → 0 ≤ x ∧ x ≤ L.length := by
  have gen : ∀ (L : List Int) (c : List Int) (m : Int), 0 ≤ m → (∀ (j : Nat) x, c[j]? = some x → 0 ≤ x ∧ x ≤ m) → ∀ (j : Nat) x, (L.foldl digit1 c)[j]? = some x → 0 ≤ x ∧ x ≤ m + L.length := by
    intro L
    induction L with
    | nil => intro c m h0 h j x hx; have := h j x hx; simp; omega
    | cons n L ih =>
      intro c m h0 h j x hx
      have := ih (digit1 c n) (m + 1) (by omega) (digit1_small h h0) j x hx
      simp only [List.length_cons]; omega
  intro j x hx
  have := gen L [0, 0, 0, 0, 0, 0, 0, 0, 0, 0] 0 (by omega) (fun j x hx => by
    match j with
    | 0 | 1 | 2 | 3 | 4 | 5 | 6 | 7 | 8 | 9 => simp at hx; omega
    | j + 10 => simp at hx) j x hx
  omega
theorem tmod10 {n : Int} (h : 0 ≤ n) : (n.tmod 10).toNat = n.natAbs % 10 ∧ 0 ≤ n.tmod 10 ∧ n.tmod 10 < 10 := by
  rw [Int.tmod_eq_emod_of_nonneg h]; omega
def digitsR (L : List Int) : List Int := if areB L = true then digitsZ L else [0, 0, 0, 0, 0, 0, 0, 0, 0, 0]
theorem digitsR_len (L : List Int) : (digitsR L).length = 10 := by unfold digitsR; split <;> simp [digits_len]
def s_digits : Spec := fun args S => match args, S with
  | [.sl 0 s n x], [.arr (.int .i64) l 1 wr] => ⟨s + n ≤ l.length ∧ n ≤ 1048576, .tup [.arrV (.int .i64) (digitsR (seg l s n)), .int .i64 (areCode (seg l s n))], [.arr (.int .i64) l 1 wr]⟩
  | _, _ => noSpec
def s_digits0 : Spec := fun args S => match args, S with
  | [.sl 0 s n x], [.arr (.int .i64) l 1 wr] => ⟨s + n ≤ l.length ∧ n ≤ 1048576 ∧ areB (seg l s n) = true, .arrV (.int .i64) (digitsZ (seg l s n)), [.arr (.int .i64) l 1 wr]⟩
  | _, _ => noSpec
theorem digit1_eq {c : List Int} {a y : Int} (hy : c[a.natAbs % 10]? = some y) : digit1 c a = c.set (a.natAbs % 10) (y + 1) := by
  simp [digit1, hy]
theorem ok_l06Digits : SpecOk Try.prog 42 s_digits0 := by
  intro args S h; unfold s_digits0 at h ⊢; (split at h <;> first | exact False.elim h | skip)
  dsimp only at h ⊢
  rename_i s n x l wr
  have hL := seg_len h.1
  have hn := are_len h.2.2
  refine funW tabOk (E := [(45, s_abs)]) ⟨ok_l01Abs, trivial⟩ [] (k := 1) (fn := Try.f42) rfl rfl rfl rfl rfl rfl ?_
  (repeat' (first | with_reducible refine And.intro ?_ ?_ | with_reducible exact VC.mk rfl | (with_reducible refine VC.mk ?_; dsimp only; done) | (with_reducible refine VC.mk ?_; omega) | (with_reducible refine VC.mk ?_; congr 1; (try simp (disch := omega) only [w64]); omega) | with_reducible exact True.intro | with_reducible exact drawOk_i (by decide +kernel) (by decide +kernel) (by decide +kernel) | exact VC.mk ⟨rfl, fun e => e⟩ | exact VC.mk ⟨rfl, rfl⟩ | ((conv => whnf); first | with_reducible refine And.intro ?_ ?_ | with_reducible exact VC.mk rfl | (with_reducible refine VC.mk ?_; dsimp only; done) | (with_reducible refine VC.mk ?_; omega) | (with_reducible refine VC.mk ?_; congr 1; (try simp (disch := omega) only [w64]); omega) | with_reducible exact True.intro | with_reducible exact drawOk_i (by decide +kernel) (by decide +kernel) (by decide +kernel) | exact VC.mk ⟨rfl, fun e => e⟩ | exact VC.mk ⟨rfl, rfl⟩ | with_reducible refine splitT ?_ | with_reducible refine splitF ?_ | ((with_reducible refine splitB.mk (fun h => ?_) (fun h => ?_)) <;> (try simp only [decide_eq_true_eq, decide_eq_false_iff_not, ne_eq, Decidable.not_not, Int.not_lt, Int.not_le, Bool.not_eq_true', Bool.not_eq_false'] at h) <;> (try simp (disch := omega) only [w64] at h) <;> (try (exfalso; first | omega | exact h True.intro))) | with_reducible intro _))) <;> (try (conv => whnf))
  refine loopW tabOk (E := [(45, s_abs)]) ⟨ok_l01Abs, trivial⟩ [] (σ := Nat) (fun i => [(0, .sl 0 s n x), (2, .ptr 1 0 0), (3, .ptr 2 0 0), (4, .int .i64 i)]) (fun i => [.arr (.int .i64) l 1 wr, .arr (.int .i64) [0, 0, 0, 0, 0, 0, 0, 0, 0, 0] 0 true, .arr (.int .i64) (digitsZ ((seg l s n).take i)) 0 true]) (fun i => n - i) (fun i => i ≤ n) 0 (Nat.zero_le _) ?_ ?_
  · (repeat' (first | with_reducible refine And.intro ?_ ?_ | with_reducible exact VC.mk rfl | (with_reducible refine VC.mk ?_; dsimp only; done) | (with_reducible refine VC.mk ?_; omega) | (with_reducible refine VC.mk ?_; congr 1; (try simp (disch := omega) only [w64]); omega) | with_reducible exact True.intro | with_reducible exact drawOk_i (by decide +kernel) (by decide +kernel) (by decide +kernel) | exact VC.mk ⟨rfl, fun e => e⟩ | exact VC.mk ⟨rfl, rfl⟩ | ((conv => whnf); first | with_reducible refine And.intro ?_ ?_ | with_reducible exact VC.mk rfl | (with_reducible refine VC.mk ?_; dsimp only; done) | (with_reducible refine VC.mk ?_; omega) | (with_reducible refine VC.mk ?_; congr 1; (try simp (disch := omega) only [w64]); omega) | with_reducible exact True.intro | with_reducible exact drawOk_i (by decide +kernel) (by decide +kernel) (by decide +kernel) | exact VC.mk ⟨rfl, fun e => e⟩ | exact VC.mk ⟨rfl, rfl⟩ | with_reducible refine splitT ?_ | with_reducible refine splitF ?_ | ((with_reducible refine splitB.mk (fun h => ?_) (fun h => ?_)) <;> (try simp only [decide_eq_true_eq, decide_eq_false_iff_not, ne_eq, Decidable.not_not, Int.not_lt, Int.not_le, Bool.not_eq_true', Bool.not_eq_false'] at h) <;> (try simp (disch := omega) only [w64] at h) <;> (try (exfalso; first | omega | exact h True.intro))) | with_reducible intro _))) <;> (try (conv => whnf))
  · intro i hi
    by_cases hlt : i < n
    · obtain ⟨a, ha⟩ := get_some (l := seg l s n) (i := i) (by omega)
      have hb := are_all h.2.2 ha
      obtain ⟨t1, t2, t3⟩ := tmod10 (n := (a.natAbs : Int)) (by omega)
      have t4 : ((a.natAbs : Int)).natAbs = a.natAbs := by omega
      rw [t4] at t1
      obtain ⟨y, hy⟩ := get_some (l := digitsZ ((seg l s n).take i)) (i := a.natAbs % 10) (by rw [digits_len]; omega)
      have hy2 := digits_small _ _ _ hy
      rw [List.length_take] at hy2
      (repeat' (first | with_reducible refine And.intro ?_ ?_ | with_reducible exact VC.mk rfl | (with_reducible refine VC.mk ?_; dsimp only; done) | (with_reducible refine VC.mk ?_; omega) | (with_reducible refine VC.mk ?_; congr 1; (try simp (disch := omega) only [w64]); omega) | with_reducible exact True.intro | with_reducible exact drawOk_i (by decide +kernel) (by decide +kernel) (by decide +kernel) | exact VC.mk ⟨rfl, fun e => e⟩ | exact VC.mk ⟨rfl, rfl⟩ | refine atL_i ha ?_ | (rw [t1]; refine atL_p (by simpa using hy) ?_) | ((conv => whnf); first | with_reducible refine And.intro ?_ ?_ | with_reducible exact VC.mk rfl | (with_reducible refine VC.mk ?_; dsimp only; done) | (with_reducible refine VC.mk ?_; omega) | (with_reducible refine VC.mk ?_; congr 1; (try simp (disch := omega) only [w64]); omega) | with_reducible exact True.intro | with_reducible exact drawOk_i (by decide +kernel) (by decide +kernel) (by decide +kernel) | exact VC.mk ⟨rfl, fun e => e⟩ | exact VC.mk ⟨rfl, rfl⟩ | refine atL_i ha ?_ | (rw [t1]; refine atL_p (by simpa using hy) ?_) | with_reducible refine splitT ?_ | with_reducible refine splitF ?_ | ((with_reducible refine splitB.mk (fun h => ?_) (fun h => ?_)) <;> (try simp only [decide_eq_true_eq, decide_eq_false_iff_not, ne_eq, Decidable.not_not, Int.not_lt, Int.not_le, Bool.not_eq_true', Bool.not_eq_false'] at h) <;> (try simp (disch := omega) only [w64] at h) <;> (try (exfalso; first | omega | exact h True.intro))) | with_reducible intro _))) <;> (try (conv => whnf))
      refine ⟨i + 1, by omega, hlt, ?_⟩
      (repeat' (first | with_reducible refine And.intro ?_ ?_ | with_reducible exact VC.mk rfl | (with_reducible refine VC.mk ?_; dsimp only; done) | (with_reducible refine VC.mk ?_; omega) | (with_reducible refine VC.mk ?_; congr 1; (try simp (disch := omega) only [w64]); omega) | with_reducible exact True.intro | with_reducible exact drawOk_i (by decide +kernel) (by decide +kernel) (by decide +kernel) | exact VC.mk ⟨rfl, fun e => e⟩ | exact VC.mk ⟨rfl, rfl⟩ | ((conv => whnf); first | with_reducible refine And.intro ?_ ?_ | with_reducible exact VC.mk rfl | (with_reducible refine VC.mk ?_; dsimp only; done) | (with_reducible refine VC.mk ?_; omega) | (with_reducible refine VC.mk ?_; congr 1; (try simp (disch := omega) only [w64]); omega) | with_reducible exact True.intro | with_reducible exact drawOk_i (by decide +kernel) (by decide +kernel) (by decide +kernel) | exact VC.mk ⟨rfl, fun e => e⟩ | exact VC.mk ⟨rfl, rfl⟩ | with_reducible refine splitT ?_ | with_reducible refine splitF ?_ | ((with_reducible refine splitB.mk (fun h => ?_) (fun h => ?_)) <;> (try simp only [decide_eq_true_eq, decide_eq_false_iff_not, ne_eq, Decidable.not_not, Int.not_lt, Int.not_le, Bool.not_eq_true', Bool.not_eq_false'] at h) <;> (try simp (disch := omega) only [w64] at h) <;> (try (exfalso; first | omega | exact h True.intro))) | with_reducible intro _))) <;> (try (conv => whnf))
      refine ⟨?_⟩
      rw [digits_step ha, digit1_eq hy, w64 (by omega)]; simp [t1]
    · (repeat' (first | with_reducible refine And.intro ?_ ?_ | with_reducible exact VC.mk rfl | (with_reducible refine VC.mk ?_; dsimp only; done) | (with_reducible refine VC.mk ?_; omega) | (with_reducible refine VC.mk ?_; congr 1; (try simp (disch := omega) only [w64]); omega) | with_reducible exact True.intro | with_reducible exact drawOk_i (by decide +kernel) (by decide +kernel) (by decide +kernel) | exact VC.mk ⟨rfl, fun e => e⟩ | exact VC.mk ⟨rfl, rfl⟩ | ((conv => whnf); first | with_reducible refine And.intro ?_ ?_ | with_reducible exact VC.mk rfl | (with_reducible refine VC.mk ?_; dsimp only; done) | (with_reducible refine VC.mk ?_; omega) | (with_reducible refine VC.mk ?_; congr 1; (try simp (disch := omega) only [w64]); omega) | with_reducible exact True.intro | with_reducible exact drawOk_i (by decide +kernel) (by decide +kernel) (by decide +kernel) | exact VC.mk ⟨rfl, fun e => e⟩ | exact VC.mk ⟨rfl, rfl⟩ | with_reducible refine splitT ?_ | with_reducible refine splitF ?_ | ((with_reducible refine splitB.mk (fun h => ?_) (fun h => ?_)) <;> (try simp only [decide_eq_true_eq, decide_eq_false_iff_not, ne_eq, Decidable.not_not, Int.not_lt, Int.not_le, Bool.not_eq_true', Bool.not_eq_false'] at h) <;> (try simp (disch := omega) only [w64] at h) <;> (try (exfalso; first | omega | exact h True.intro))) | with_reducible intro _))) <;> (try (conv => whnf))
      all_goals (
        have hi2 : (seg l s n).take i = seg l s n := List.take_of_length_le (by omega)
        have hd := digits_len (seg l s n)
        have hs : seg (digitsZ (seg l s n)) 0 10 = digitsZ (seg l s n) := seg_full hd
        refine ⟨?_⟩
        simp only [hi2, hs, hd]
        try first | trivial | exact ⟨rfl, rfl⟩)
theorem seg_zeros : seg [(0 : Int), 0, 0, 0, 0, 0, 0, 0, 0, 0] 0 10 = [0, 0, 0, 0, 0, 0, 0, 0, 0, 0] := rfl
theorem code_0 {L : List Int} : areCode L = 0 ↔ areB L = true := by unfold areCode; split <;> simp_all
theorem code_2 {L : List Int} : areCode L ≠ 0 ↔ areB L = false := by unfold areCode; split <;> simp_all
theorem ok_LastDigitsS : SpecOk Try.prog 11 s_digits := by
  intro args S h; unfold s_digits at h ⊢; (split at h <;> first | exact False.elim h | skip)
  dsimp only at h ⊢
  rename_i s n x l wr
  have hL := seg_len h.1
  refine funW tabOk (E := [(41, s_l06List), (42, s_digits0)]) ⟨ok_l06List, ok_l06Digits, trivial⟩ [] (k := 1) (fn := Try.f11) rfl rfl rfl rfl rfl rfl ?_
  (repeat' (first | with_reducible refine And.intro ?_ ?_ | with_reducible exact VC.mk rfl | (with_reducible refine VC.mk ?_; dsimp only; done) | (with_reducible refine VC.mk ?_; omega) | (with_reducible refine VC.mk ?_; congr 1; (try simp (disch := omega) only [w64]); omega) | with_reducible exact True.intro | with_reducible exact drawOk_i (by decide +kernel) (by decide +kernel) (by decide +kernel) | exact VC.mk ⟨rfl, fun e => e⟩ | exact VC.mk ⟨rfl, rfl⟩ | ((conv => whnf); first | with_reducible refine And.intro ?_ ?_ | with_reducible exact VC.mk rfl | (with_reducible refine VC.mk ?_; dsimp only; done) | (with_reducible refine VC.mk ?_; omega) | (with_reducible refine VC.mk ?_; congr 1; (try simp (disch := omega) only [w64]); omega) | with_reducible exact True.intro | with_reducible exact drawOk_i (by decide +kernel) (by decide +kernel) (by decide +kernel) | exact VC.mk ⟨rfl, fun e => e⟩ | exact VC.mk ⟨rfl, rfl⟩ | with_reducible refine splitT ?_ | with_reducible refine splitF ?_ | ((with_reducible refine splitB.mk (fun h => ?_) (fun h => ?_)) <;> (try simp only [decide_eq_true_eq, decide_eq_false_iff_not, ne_eq, Decidable.not_not, Int.not_lt, Int.not_le, Bool.not_eq_true', Bool.not_eq_false'] at h) <;> (try simp (disch := omega) only [w64] at h) <;> (try (exfalso; first | omega | exact h True.intro))) | with_reducible intro _))) <;> (try (conv => whnf))
  all_goals (have hd := digits_len (seg l s n); have hs := seg_full hd; refine ⟨?_⟩; first | (rw [code_0] at h; simp_all [digitsR]; done) | (simp only [areCode] at h ⊢; split at h <;> simp_all [seg_zeros, digitsR]; (try rfl); done))
theorem ok_LastDigitsI : SpecOk Try.prog 13 s_digits := by
  intro args S h; unfold s_digits at h ⊢; (split at h <;> first | exact False.elim h | skip)
  dsimp only at h ⊢
  rename_i s n x l wr
  have hL := seg_len h.1
  refine funW tabOk (E := [(43, s_are)]) ⟨ok_areReadings, trivial⟩ [] (k := 1) (fn := Try.f13) rfl rfl rfl rfl rfl rfl ?_
  (repeat' (first | with_reducible refine And.intro ?_ ?_ | with_reducible exact VC.mk rfl | (with_reducible refine VC.mk ?_; dsimp only; done) | (with_reducible refine VC.mk ?_; omega) | (with_reducible refine VC.mk ?_; congr 1; (try simp (disch := omega) only [w64]); omega) | with_reducible exact True.intro | with_reducible exact drawOk_i (by decide +kernel) (by decide +kernel) (by decide +kernel) | exact VC.mk ⟨rfl, fun e => e⟩ | exact VC.mk ⟨rfl, rfl⟩ | ((conv => whnf); first | with_reducible refine And.intro ?_ ?_ | with_reducible exact VC.mk rfl | (with_reducible refine VC.mk ?_; dsimp only; done) | (with_reducible refine VC.mk ?_; omega) | (with_reducible refine VC.mk ?_; congr 1; (try simp (disch := omega) only [w64]); omega) | with_reducible exact True.intro | with_reducible exact drawOk_i (by decide +kernel) (by decide +kernel) (by decide +kernel) | exact VC.mk ⟨rfl, fun e => e⟩ | exact VC.mk ⟨rfl, rfl⟩ | with_reducible refine splitT ?_ | with_reducible refine splitF ?_ | ((with_reducible refine splitB.mk (fun h => ?_) (fun h => ?_)) <;> (try simp only [decide_eq_true_eq, decide_eq_false_iff_not, ne_eq, Decidable.not_not, Int.not_lt, Int.not_le, Bool.not_eq_true', Bool.not_eq_false'] at h) <;> (try simp (disch := omega) only [w64] at h) <;> (try (exfalso; first | omega | exact h True.intro))) | with_reducible intro _))) <;> (try (conv => whnf))
  rotate_left 3
  · have hn := are_len h
    refine loopW tabOk (E := [(43, s_are)]) ⟨ok_areReadings, trivial⟩ [] (σ := Nat) (fun i => [(2, .ptr 1 0 0), (4, .ptr 2 0 0), (12, .sl 0 s n x), (13, .int .i64 n), (14, .int .i64 i)]) (fun i => [.arr (.int .i64) l 1 wr, .arr (.int .i64) [0, 0, 0, 0, 0, 0, 0, 0, 0, 0] 0 true, .arr (.int .i64) (digitsZ ((seg l s n).take i)) 0 true]) (fun i => n - i) (fun i => i ≤ n) 0 (Nat.zero_le _) ?_ ?_
    · (repeat' (first | with_reducible refine And.intro ?_ ?_ | with_reducible exact VC.mk rfl | (with_reducible refine VC.mk ?_; dsimp only; done) | (with_reducible refine VC.mk ?_; omega) | (with_reducible refine VC.mk ?_; congr 1; (try simp (disch := omega) only [w64]); omega) | with_reducible exact True.intro | with_reducible exact drawOk_i (by decide +kernel) (by decide +kernel) (by decide +kernel) | exact VC.mk ⟨rfl, fun e => e⟩ | exact VC.mk ⟨rfl, rfl⟩ | ((conv => whnf); first | with_reducible refine And.intro ?_ ?_ | with_reducible exact VC.mk rfl | (with_reducible refine VC.mk ?_; dsimp only; done) | (with_reducible refine VC.mk ?_; omega) | (with_reducible refine VC.mk ?_; congr 1; (try simp (disch := omega) only [w64]); omega) | with_reducible exact True.intro | with_reducible exact drawOk_i (by decide +kernel) (by decide +kernel) (by decide +kernel) | exact VC.mk ⟨rfl, fun e => e⟩ | exact VC.mk ⟨rfl, rfl⟩ | with_reducible refine splitT ?_ | with_reducible refine splitF ?_ | ((with_reducible refine splitB.mk (fun h => ?_) (fun h => ?_)) <;> (try simp only [decide_eq_true_eq, decide_eq_false_iff_not, ne_eq, Decidable.not_not, Int.not_lt, Int.not_le, Bool.not_eq_true', Bool.not_eq_false'] at h) <;> (try simp (disch := omega) only [w64] at h) <;> (try (exfalso; first | omega | exact h True.intro))) | with_reducible intro _))) <;> (try (conv => whnf))
    · intro i hi
      by_cases hlt : i < n
      · obtain ⟨a, ha⟩ := get_some (l := seg l s n) (i := i) (by omega)
        have hb := are_all h ha
        obtain ⟨t1, t2, t3⟩ := tmod10 (n := (a.natAbs : Int)) (by omega)
        have t4 : ((a.natAbs : Int)).natAbs = a.natAbs := by omega
        rw [t4] at t1
        have e : (if IntKind.i64.wrap (0 - a) > a then IntKind.i64.wrap (0 - a) else a) = (a.natAbs : Int) := by
          rw [w64 (by omega)]; split <;> omega
        obtain ⟨y, hy⟩ := get_some (l := digitsZ ((seg l s n).take i)) (i := a.natAbs % 10) (by rw [digits_len]; omega)
        have hy2 := digits_small _ _ _ hy
        rw [List.length_take] at hy2
        (repeat' (first | with_reducible refine And.intro ?_ ?_ | with_reducible exact VC.mk rfl | (with_reducible refine VC.mk ?_; dsimp only; done) | (with_reducible refine VC.mk ?_; omega) | (with_reducible refine VC.mk ?_; congr 1; (try simp (disch := omega) only [w64]); omega) | with_reducible exact True.intro | with_reducible exact drawOk_i (by decide +kernel) (by decide +kernel) (by decide +kernel) | exact VC.mk ⟨rfl, fun e => e⟩ | exact VC.mk ⟨rfl, rfl⟩ | refine atL_i ha ?_ | ((try rw [e]); (with_reducible refine VC.mk ?_); omega) | ((with_reducible refine atL_e ?_ hy ?_); · (try rw [e]); omega) | ((conv => whnf); first | with_reducible refine And.intro ?_ ?_ | with_reducible exact VC.mk rfl | (with_reducible refine VC.mk ?_; dsimp only; done) | (with_reducible refine VC.mk ?_; omega) | (with_reducible refine VC.mk ?_; congr 1; (try simp (disch := omega) only [w64]); omega) | with_reducible exact True.intro | with_reducible exact drawOk_i (by decide +kernel) (by decide +kernel) (by decide +kernel) | exact VC.mk ⟨rfl, fun e => e⟩ | exact VC.mk ⟨rfl, rfl⟩ | refine atL_i ha ?_ | ((try rw [e]); (with_reducible refine VC.mk ?_); omega) | ((with_reducible refine atL_e ?_ hy ?_); · (try rw [e]); omega) | with_reducible refine splitT ?_ | with_reducible refine splitF ?_ | ((with_reducible refine splitB.mk (fun h => ?_) (fun h => ?_)) <;> (try simp only [decide_eq_true_eq, decide_eq_false_iff_not, ne_eq, Decidable.not_not, Int.not_lt, Int.not_le, Bool.not_eq_true', Bool.not_eq_false'] at h) <;> (try simp (disch := omega) only [w64] at h) <;> (try (exfalso; first | omega | exact h True.intro))) | with_reducible intro _))) <;> (try (conv => whnf))
        refine ⟨i + 1, by omega, hlt, ?_⟩
        (repeat' (first | with_reducible refine And.intro ?_ ?_ | with_reducible exact VC.mk rfl | (with_reducible refine VC.mk ?_; dsimp only; done) | (with_reducible refine VC.mk ?_; omega) | (with_reducible refine VC.mk ?_; congr 1; (try simp (disch := omega) only [w64]); omega) | with_reducible exact True.intro | with_reducible exact drawOk_i (by decide +kernel) (by decide +kernel) (by decide +kernel) | exact VC.mk ⟨rfl, fun e => e⟩ | exact VC.mk ⟨rfl, rfl⟩ | ((conv => whnf); first | with_reducible refine And.intro ?_ ?_ | with_reducible exact VC.mk rfl | (with_reducible refine VC.mk ?_; dsimp only; done) | (with_reducible refine VC.mk ?_; omega) | (with_reducible refine VC.mk ?_; congr 1; (try simp (disch := omega) only [w64]); omega) | with_reducible exact True.intro | with_reducible exact drawOk_i (by decide +kernel) (by decide +kernel) (by decide +kernel) | exact VC.mk ⟨rfl, fun e => e⟩ | exact VC.mk ⟨rfl, rfl⟩ | with_reducible refine splitT ?_ | with_reducible refine splitF ?_ | ((with_reducible refine splitB.mk (fun h => ?_) (fun h => ?_)) <;> (try simp only [decide_eq_true_eq, decide_eq_false_iff_not, ne_eq, Decidable.not_not, Int.not_lt, Int.not_le, Bool.not_eq_true', Bool.not_eq_false'] at h) <;> (try simp (disch := omega) only [w64] at h) <;> (try (exfalso; first | omega | exact h True.intro))) | with_reducible intro _))) <;> (try (conv => whnf))
        refine ⟨?_⟩
        rw [digits_step ha, digit1_eq hy, e, w64 (by omega)]; simp [t1]
      · (repeat' (first | with_reducible refine And.intro ?_ ?_ | with_reducible exact VC.mk rfl | (with_reducible refine VC.mk ?_; dsimp only; done) | (with_reducible refine VC.mk ?_; omega) | (with_reducible refine VC.mk ?_; congr 1; (try simp (disch := omega) only [w64]); omega) | with_reducible exact True.intro | with_reducible exact drawOk_i (by decide +kernel) (by decide +kernel) (by decide +kernel) | exact VC.mk ⟨rfl, fun e => e⟩ | exact VC.mk ⟨rfl, rfl⟩ | ((conv => whnf); first | with_reducible refine And.intro ?_ ?_ | with_reducible exact VC.mk rfl | (with_reducible refine VC.mk ?_; dsimp only; done) | (with_reducible refine VC.mk ?_; omega) | (with_reducible refine VC.mk ?_; congr 1; (try simp (disch := omega) only [w64]); omega) | with_reducible exact True.intro | with_reducible exact drawOk_i (by decide +kernel) (by decide +kernel) (by decide +kernel) | exact VC.mk ⟨rfl, fun e => e⟩ | exact VC.mk ⟨rfl, rfl⟩ | with_reducible refine splitT ?_ | with_reducible refine splitF ?_ | ((with_reducible refine splitB.mk (fun h => ?_) (fun h => ?_)) <;> (try simp only [decide_eq_true_eq, decide_eq_false_iff_not, ne_eq, Decidable.not_not, Int.not_lt, Int.not_le, Bool.not_eq_true', Bool.not_eq_false'] at h) <;> (try simp (disch := omega) only [w64] at h) <;> (try (exfalso; first | omega | exact h True.intro))) | with_reducible intro _))) <;> (try (conv => whnf))
        all_goals (
          have hi2 : (seg l s n).take i = seg l s n := List.take_of_length_le (by omega)
          have hd := digits_len (seg l s n)
          have hs : seg (digitsZ (seg l s n)) 0 10 = digitsZ (seg l s n) := seg_full hd
          refine ⟨?_⟩
          simp_all [areCode, digitsR]
          try first | trivial | exact ⟨rfl, rfl⟩)
  all_goals (refine ⟨?_⟩; simp_all [seg_zeros, digitsR, areCode])
def s_eqA : Spec := fun args S => match args, S with
  | [.arrV (.int .i64) l, .arrV (.int .i64) l'], [] => ⟨l.length = 10 ∧ l'.length = 10, .bool (decide (l = l')), []⟩
  | _, _ => noSpec
theorem ok_eqA : SpecOk Try.prog 14 s_eqA := by
  intro args S h; unfold s_eqA at h ⊢; (split at h <;> first | exact False.elim h | skip)
  dsimp only at h ⊢
  rename_i l l'
  have hl := h
  refine funW tabOk (E := []) trivial [] (k := 0) (fn := Try.f14) rfl rfl rfl rfl rfl rfl ?_
  (repeat' (first | with_reducible refine And.intro ?_ ?_ | with_reducible exact VC.mk rfl | (with_reducible refine VC.mk ?_; dsimp only; done) | (with_reducible refine VC.mk ?_; omega) | (with_reducible refine VC.mk ?_; congr 1; (try simp (disch := omega) only [w64]); omega) | with_reducible exact True.intro | with_reducible exact drawOk_i (by decide +kernel) (by decide +kernel) (by decide +kernel) | exact VC.mk ⟨rfl, fun e => e⟩ | exact VC.mk ⟨rfl, rfl⟩ | ((conv => whnf); first | with_reducible refine And.intro ?_ ?_ | with_reducible exact VC.mk rfl | (with_reducible refine VC.mk ?_; dsimp only; done) | (with_reducible refine VC.mk ?_; omega) | (with_reducible refine VC.mk ?_; congr 1; (try simp (disch := omega) only [w64]); omega) | with_reducible exact True.intro | with_reducible exact drawOk_i (by decide +kernel) (by decide +kernel) (by decide +kernel) | exact VC.mk ⟨rfl, fun e => e⟩ | exact VC.mk ⟨rfl, rfl⟩ | with_reducible refine splitT ?_ | with_reducible refine splitF ?_ | ((with_reducible refine splitB.mk (fun h => ?_) (fun h => ?_)) <;> (try simp only [decide_eq_true_eq, decide_eq_false_iff_not, ne_eq, Decidable.not_not, Int.not_lt, Int.not_le, Bool.not_eq_true', Bool.not_eq_false'] at h) <;> (try simp (disch := omega) only [w64] at h) <;> (try (exfalso; first | omega | exact h True.intro))) | with_reducible intro _))) <;> (try (conv => whnf))
  refine loopW tabOk (E := []) trivial [] (σ := Nat) (fun i => [(2, .ptr 0 0 0), (3, .ptr 1 0 0), (5, .int .i64 i)]) (fun i => [.arr (.int .i64) l 0 true, .arr (.int .i64) l' 0 true]) (fun i => 10 - i) (fun i => i ≤ 10 ∧ l.take i = l'.take i) 0 ⟨Nat.zero_le _, by simp⟩ ?_ ?_
  · (repeat' (first | with_reducible refine And.intro ?_ ?_ | with_reducible exact VC.mk rfl | (with_reducible refine VC.mk ?_; dsimp only; done) | (with_reducible refine VC.mk ?_; omega) | (with_reducible refine VC.mk ?_; congr 1; (try simp (disch := omega) only [w64]); omega) | with_reducible exact True.intro | with_reducible exact drawOk_i (by decide +kernel) (by decide +kernel) (by decide +kernel) | exact VC.mk ⟨rfl, fun e => e⟩ | exact VC.mk ⟨rfl, rfl⟩ | ((conv => whnf); first | with_reducible refine And.intro ?_ ?_ | with_reducible exact VC.mk rfl | (with_reducible refine VC.mk ?_; dsimp only; done) | (with_reducible refine VC.mk ?_; omega) | (with_reducible refine VC.mk ?_; congr 1; (try simp (disch := omega) only [w64]); omega) | with_reducible exact True.intro | with_reducible exact drawOk_i (by decide +kernel) (by decide +kernel) (by decide +kernel) | exact VC.mk ⟨rfl, fun e => e⟩ | exact VC.mk ⟨rfl, rfl⟩ | with_reducible refine splitT ?_ | with_reducible refine splitF ?_ | ((with_reducible refine splitB.mk (fun h => ?_) (fun h => ?_)) <;> (try simp only [decide_eq_true_eq, decide_eq_false_iff_not, ne_eq, Decidable.not_not, Int.not_lt, Int.not_le, Bool.not_eq_true', Bool.not_eq_false'] at h) <;> (try simp (disch := omega) only [w64] at h) <;> (try (exfalso; first | omega | exact h True.intro))) | with_reducible intro _))) <;> (try (conv => whnf))
  · intro i ⟨hi, hp⟩
    by_cases hlt : i < 10
    · obtain ⟨a, ha⟩ := get_some (l := l) (i := i) (by omega)
      obtain ⟨b, hb⟩ := get_some (l := l') (i := i) (by omega)
      (repeat' (first | with_reducible refine And.intro ?_ ?_ | with_reducible exact VC.mk rfl | (with_reducible refine VC.mk ?_; dsimp only; done) | (with_reducible refine VC.mk ?_; omega) | (with_reducible refine VC.mk ?_; congr 1; (try simp (disch := omega) only [w64]); omega) | with_reducible exact True.intro | with_reducible exact drawOk_i (by decide +kernel) (by decide +kernel) (by decide +kernel) | exact VC.mk ⟨rfl, fun e => e⟩ | exact VC.mk ⟨rfl, rfl⟩ | refine atL_0 ha ?_ | refine atL_0 hb ?_ | ((conv => whnf); first | with_reducible refine And.intro ?_ ?_ | with_reducible exact VC.mk rfl | (with_reducible refine VC.mk ?_; dsimp only; done) | (with_reducible refine VC.mk ?_; omega) | (with_reducible refine VC.mk ?_; congr 1; (try simp (disch := omega) only [w64]); omega) | with_reducible exact True.intro | with_reducible exact drawOk_i (by decide +kernel) (by decide +kernel) (by decide +kernel) | exact VC.mk ⟨rfl, fun e => e⟩ | exact VC.mk ⟨rfl, rfl⟩ | refine atL_0 ha ?_ | refine atL_0 hb ?_ | with_reducible refine splitT ?_ | with_reducible refine splitF ?_ | ((with_reducible refine splitB.mk (fun h => ?_) (fun h => ?_)) <;> (try simp only [decide_eq_true_eq, decide_eq_false_iff_not, ne_eq, Decidable.not_not, Int.not_lt, Int.not_le, Bool.not_eq_true', Bool.not_eq_false'] at h) <;> (try simp (disch := omega) only [w64] at h) <;> (try (exfalso; first | omega | exact h True.intro))) | with_reducible intro _))) <;> (try (conv => whnf))
      · refine ⟨?_⟩; rw [decide_eq_false]; exact same_not ha hb h
      · refine ⟨i + 1, by omega, ⟨hlt, same_step ha hb hp h⟩, ?_⟩
        (repeat' (first | with_reducible refine And.intro ?_ ?_ | with_reducible exact VC.mk rfl | (with_reducible refine VC.mk ?_; dsimp only; done) | (with_reducible refine VC.mk ?_; omega) | (with_reducible refine VC.mk ?_; congr 1; (try simp (disch := omega) only [w64]); omega) | with_reducible exact True.intro | with_reducible exact drawOk_i (by decide +kernel) (by decide +kernel) (by decide +kernel) | exact VC.mk ⟨rfl, fun e => e⟩ | exact VC.mk ⟨rfl, rfl⟩ | ((conv => whnf); first | with_reducible refine And.intro ?_ ?_ | with_reducible exact VC.mk rfl | (with_reducible refine VC.mk ?_; dsimp only; done) | (with_reducible refine VC.mk ?_; omega) | (with_reducible refine VC.mk ?_; congr 1; (try simp (disch := omega) only [w64]); omega) | with_reducible exact True.intro | with_reducible exact drawOk_i (by decide +kernel) (by decide +kernel) (by decide +kernel) | exact VC.mk ⟨rfl, fun e => e⟩ | exact VC.mk ⟨rfl, rfl⟩ | with_reducible refine splitT ?_ | with_reducible refine splitF ?_ | ((with_reducible refine splitB.mk (fun h => ?_) (fun h => ?_)) <;> (try simp only [decide_eq_true_eq, decide_eq_false_iff_not, ne_eq, Decidable.not_not, Int.not_lt, Int.not_le, Bool.not_eq_true', Bool.not_eq_false'] at h) <;> (try simp (disch := omega) only [w64] at h) <;> (try (exfalso; first | omega | exact h True.intro))) | with_reducible intro _))) <;> (try (conv => whnf))
    · (repeat' (first | with_reducible refine And.intro ?_ ?_ | with_reducible exact VC.mk rfl | (with_reducible refine VC.mk ?_; dsimp only; done) | (with_reducible refine VC.mk ?_; omega) | (with_reducible refine VC.mk ?_; congr 1; (try simp (disch := omega) only [w64]); omega) | with_reducible exact True.intro | with_reducible exact drawOk_i (by decide +kernel) (by decide +kernel) (by decide +kernel) | exact VC.mk ⟨rfl, fun e => e⟩ | exact VC.mk ⟨rfl, rfl⟩ | ((conv => whnf); first | with_reducible refine And.intro ?_ ?_ | with_reducible exact VC.mk rfl | (with_reducible refine VC.mk ?_; dsimp only; done) | (with_reducible refine VC.mk ?_; omega) | (with_reducible refine VC.mk ?_; congr 1; (try simp (disch := omega) only [w64]); omega) | with_reducible exact True.intro | with_reducible exact drawOk_i (by decide +kernel) (by decide +kernel) (by decide +kernel) | exact VC.mk ⟨rfl, fun e => e⟩ | exact VC.mk ⟨rfl, rfl⟩ | with_reducible refine splitT ?_ | with_reducible refine splitF ?_ | ((with_reducible refine splitB.mk (fun h => ?_) (fun h => ?_)) <;> (try simp only [decide_eq_true_eq, decide_eq_false_iff_not, ne_eq, Decidable.not_not, Int.not_lt, Int.not_le, Bool.not_eq_true', Bool.not_eq_false'] at h) <;> (try simp (disch := omega) only [w64] at h) <;> (try (exfalso; first | omega | exact h True.intro))) | with_reducible intro _))) <;> (try (conv => whnf))
      obtain rfl : i = 10 := by omega
      refine ⟨?_⟩; rw [decide_eq_true]; exact same_end hl.1 hl.2 hp
theorem law_lastDigits {c : Bool} {n : Nat} {l : List Int} (hn : n ≤ l.length) (hc : c = true → l = []) (ho : ∀ y ∈ l, ET.Ok (.int .i64) y) : RunsS Try.prog 3 [.opt c 0 n 0] [.arrO (.int .i64) l 1] (.bool true) [.arrO (.int .i64) l 1] := by
  have hL : (seg l 0 n).length = n := seg_len (by omega)
  refine funW tabOk (E := [(12, s_toInt64S), (11, s_digits), (13, s_digits), (15, s_eqInt64S), (14, s_eqA)]) ⟨ok_toInt64S, ok_LastDigitsS, ok_LastDigitsI, ok_eqInt64S, ok_eqA, trivial⟩ [] (k := 1) (fn := Try.f3) rfl rfl rfl rfl rfl rfl ?_
  have hd := digitsR_len (seg (seg l 0 n) 0 n)
  have hs := seg_full hd
  (repeat' (first | with_reducible refine And.intro ?_ ?_ | with_reducible exact VC.mk rfl | (with_reducible refine VC.mk ?_; dsimp only; done) | (with_reducible refine VC.mk ?_; omega) | (with_reducible refine VC.mk ?_; congr 1; (try simp (disch := omega) only [w64]); omega) | with_reducible exact True.intro | with_reducible exact drawOk_i (by decide +kernel) (by decide +kernel) (by decide +kernel) | exact VC.mk ⟨rfl, fun e => e⟩ | exact VC.mk ⟨rfl, rfl⟩ | exact ⟨⟨hn, hc, by omega⟩⟩ | (exact ⟨⟨hd, by rw [hd]; rfl⟩⟩) | ((with_reducible refine VC.mk ?_); rw [hd]) | ((with_reducible refine VC.mk ?_); rw [hs, hd]; exact ⟨rfl, rfl⟩) | ((conv => whnf); first | with_reducible refine And.intro ?_ ?_ | with_reducible exact VC.mk rfl | (with_reducible refine VC.mk ?_; dsimp only; done) | (with_reducible refine VC.mk ?_; omega) | (with_reducible refine VC.mk ?_; congr 1; (try simp (disch := omega) only [w64]); omega) | with_reducible exact True.intro | with_reducible exact drawOk_i (by decide +kernel) (by decide +kernel) (by decide +kernel) | exact VC.mk ⟨rfl, fun e => e⟩ | exact VC.mk ⟨rfl, rfl⟩ | exact ⟨⟨hn, hc, by omega⟩⟩ | (exact ⟨⟨hd, by rw [hd]; rfl⟩⟩) | ((with_reducible refine VC.mk ?_); rw [hd]) | ((with_reducible refine VC.mk ?_); rw [hs, hd]; exact ⟨rfl, rfl⟩) | with_reducible refine splitT ?_ | with_reducible refine splitF ?_ | ((with_reducible refine splitB.mk (fun h => ?_) (fun h => ?_)) <;> (try simp only [decide_eq_true_eq, decide_eq_false_iff_not, ne_eq, Decidable.not_not, Int.not_lt, Int.not_le, Bool.not_eq_true', Bool.not_eq_false'] at h) <;> (try simp (disch := omega) only [w64] at h) <;> (try (exfalso; first | omega | exact h True.intro))) | with_reducible intro _))) <;> (try (conv => whnf))
end Go.Proofs.Ytlanklogihplnaa.Eng
