/- frac: lemmas for the proof, no conditions of their own. -/
import Derived.Test.YtbmejhabgoimeaaXnum
import Derived.Test.YtbmejhabgoimeaaXlists
import Derived.Test.YtbmejhabgoimeaaXwithin
import Derived.Test.YtbmejhabgoimeaaXgcd
import Derived.Test.YtbmejhabgoimeaaXl01gcd
set_option linter.unusedVariables false
set_option linter.unusedSimpArgs false
namespace Go.Proofs.Ytbmejhabgoimeaa.Eng
open Go Go.RowKit
set_option maxRecDepth 100000
/-- A valid fraction. -/
def fOk (p q : Int) : Bool := decide (1 ≤ q ∧ q ≤ 1000000000 ∧ -1000000000 ≤ p ∧ p ≤ 1000000000 ∧ Int.gcd p q = 1)
theorem fOk_iff {p q : Int} : fOk p q = true ↔ 1 ≤ q ∧ q ≤ 1000000000 ∧ -1000000000 ≤ p ∧ p ≤ 1000000000 ∧ Int.gcd p q = 1 := by simp [fOk]
def s_fOk : Spec := fun args S => match args, S with
  | [.agg [.int .i64 p, .int .i64 q]], [] => ⟨True, .bool (fOk p q), []⟩
  | _, _ => noSpec
theorem gcd_abs (p q : Int) : Int.gcd (p.natAbs : Int) q = Int.gcd p q := by simp [Int.gcd]
theorem gcd_abs2 (p q : Int) : Int.gcd p (q.natAbs : Int) = Int.gcd p q := by simp [Int.gcd]
theorem ok_ValidFrac : SpecOk Try.prog 37 s_fOk := by
  intro args S h; unfold s_fOk at h ⊢; (split at h <;> first | exact False.elim h | skip)
  dsimp only at h ⊢
  refine funW tabOk (E := [(71, s_within), (72, s_gcd)]) ⟨ok_within, ok_gcd, trivial⟩ [] (k := 0) (fn := Try.f37) rfl rfl rfl rfl rfl rfl ?_
  (repeat' ((try (conv => whnf)); first | (with_reducible first | refine And.intro ?_ ?_ | refine WX.of ?_ | exact VC.mk rfl | exact True.intro | exact VC.mk ⟨rfl, fun e => e⟩ | exact VC.mk ⟨fun e => e, rfl⟩ | exact VC.mk (Nat.le_refl _) | exact drawOk_i (by decide +kernel) (by decide +kernel) (by decide +kernel)) | ((with_reducible refine VC.mk ?_); first | (dsimp only; done) | omega | (congr 1; (try simp (disch := omega) only [w64]); omega) | exact ⟨rfl, rfl⟩ | (refine ⟨?_, ?_, ?_⟩; assumption; assumption; omega) | (refine ⟨Nat.le_trans (Nat.mul_le_mul_left _ (m := 1000) ?_) ?_, ?_⟩; decide; omega; omega)) | with_reducible refine splitT ?_ | with_reducible refine splitF ?_ | ((with_reducible refine splitB.mk (fun h => ?_) (fun h => ?_)) <;> (try simp only [decide_eq_true_eq, decide_eq_false_iff_not, ne_eq, Decidable.not_not, Int.not_lt, Int.not_le, Bool.not_eq_true', Bool.not_eq_false'] at h) <;> (try simp (disch := omega) only [w64] at h) <;> (try (exfalso; first | omega | exact h True.intro | (simp only [and_self, not_true_eq_false] at h; done) | (simp only [beq_self_eq_true, Bool.true_eq_false, reduceCtorEq] at h; done)))) | (with_reducible intro hz; (try exact absurd hz (Nat.succ_ne_zero _)))))
  all_goals (refine ⟨congrArg SV.bool ?_⟩; (try dsimp only); (try simp (disch := omega) only [w64]); rw [Bool.eq_iff_iff]; try (simp [fOk]); try omega)
theorem ok_l01Ok : SpecOk Try.prog 79 s_fOk := by
  intro args S h; unfold s_fOk at h ⊢; (split at h <;> first | exact False.elim h | skip)
  dsimp only at h ⊢
  refine funW tabOk (E := [(78, s_within), (106, s_gcdN), (80, s_abs)]) ⟨ok_l00In, ok_l01Gcd, ok_l01Abs, trivial⟩ [(1, [(13, 2)])] (k := 0) (fn := Try.f79) rfl rfl rfl rfl rfl rfl ?_
  (repeat' ((try (conv => whnf)); first | (with_reducible first | refine And.intro ?_ ?_ | refine WX.of ?_ | exact VC.mk rfl | exact True.intro | exact VC.mk ⟨rfl, fun e => e⟩ | exact VC.mk ⟨fun e => e, rfl⟩ | exact VC.mk (Nat.le_refl _) | exact drawOk_i (by decide +kernel) (by decide +kernel) (by decide +kernel)) | ((with_reducible refine VC.mk ?_); first | (dsimp only; done) | omega | (congr 1; (try simp (disch := omega) only [w64]); omega) | exact ⟨rfl, rfl⟩ | (refine ⟨?_, ?_, ?_⟩; assumption; assumption; omega) | (refine ⟨Nat.le_trans (Nat.mul_le_mul_left _ (m := 1000) ?_) ?_, ?_⟩; decide; omega; omega)) | with_reducible refine splitT ?_ | with_reducible refine splitF ?_ | ((with_reducible refine splitB.mk (fun h => ?_) (fun h => ?_)) <;> (try simp only [decide_eq_true_eq, decide_eq_false_iff_not, ne_eq, Decidable.not_not, Int.not_lt, Int.not_le, Bool.not_eq_true', Bool.not_eq_false'] at h) <;> (try simp (disch := omega) only [w64] at h) <;> (try (exfalso; first | omega | exact h True.intro | (simp only [and_self, not_true_eq_false] at h; done) | (simp only [beq_self_eq_true, Bool.true_eq_false, reduceCtorEq] at h; done)))) | (with_reducible intro hz; (try exact absurd hz (Nat.succ_ne_zero _)))))
  all_goals (refine ⟨congrArg SV.bool ?_⟩; (try dsimp only); (try simp (disch := omega) only [w64]); rw [Bool.eq_iff_iff]; try (simp [fOk, gcd_abs]); try omega)
/-- The reduced fraction. -/
def redG (p q : Int) : Int := (Int.gcd p q : Int)
def redP (p q : Int) : Int := if q < 0 then -(p / redG p q) else p / redG p q
def redQ (p q : Int) : Int := if q < 0 then -(q / redG p q) else q / redG p q
def redOk (p q : Int) : Bool := fOk (redP p q) (redQ p q)
theorem redG_pos {p q : Int} (h : q ≠ 0) : 0 < redG p q := by
  unfold redG
  have : 0 < Int.gcd p q := Int.gcd_pos_of_ne_zero_right _ h
  omega
theorem redG_le {p q M : Int} (h : q ≠ 0) (hq : -M ≤ q ∧ q ≤ M) : redG p q ≤ M := by
  unfold redG
  have := Nat.le_of_dvd (by omega) (Nat.gcd_dvd_right p.natAbs q.natAbs)
  have e : Int.gcd p q = Nat.gcd p.natAbs q.natAbs := rfl
  omega
theorem ediv_small {p g M : Int} (hg : 0 < g) (h : -M ≤ p ∧ p ≤ M) : -M ≤ p / g ∧ p / g ≤ M := by
  have h0 : 0 ≤ M := by omega
  refine ⟨?_, ?_⟩
  · rw [Int.le_ediv_iff_mul_le hg]
    have : M ≤ M * g := by have := Int.mul_le_mul_of_nonneg_left (show 1 ≤ g by omega) h0; omega
    rw [Int.neg_mul]; omega
  · have := Int.ediv_le_ediv hg h.2
    have := Int.ediv_le_self g h0
    omega
theorem red_p {p q : Int} : p.tdiv (redG p q) = p / redG p q := Int.tdiv_eq_ediv_of_dvd (Int.gcd_dvd_left ..)
theorem red_q {p q : Int} : q.tdiv (redG p q) = q / redG p q := Int.tdiv_eq_ediv_of_dvd (Int.gcd_dvd_right ..)
theorem red_np {p q : Int} : (-p).tdiv (redG p q) = -(p / redG p q) := by rw [Int.neg_tdiv, red_p]
theorem red_nq {p q : Int} : (-q).tdiv (redG p q) = -(q / redG p q) := by rw [Int.neg_tdiv, red_q]
theorem red_bound {p q : Int} (h : q ≠ 0) (hp : -9223372036854775807 ≤ p ∧ p ≤ 9223372036854775807) (hq : -9223372036854775807 ≤ q ∧ q ≤ 9223372036854775807) :
    (-9223372036854775807 ≤ p / redG p q ∧ p / redG p q ≤ 9223372036854775807) ∧ (-9223372036854775807 ≤ q / redG p q ∧ q / redG p q ≤ 9223372036854775807) :=
  ⟨ediv_small (redG_pos h) hp, ediv_small (redG_pos h) hq⟩
/-- The sign of the reduced denominator. -/
theorem red_sign {p q : Int} (h : q ≠ 0) : (q / redG p q < 0 ↔ q < 0) := by
  have hg := redG_pos (p := p) h
  constructor
  · intro h1
    have := Int.ediv_mul_cancel (a := q) (b := redG p q) (Int.gcd_dvd_right ..)
    have h2 : q / redG p q * redG p q < 0 := Int.mul_neg_of_neg_of_pos h1 hg
    omega
  · intro h1
    have := Int.ediv_mul_cancel (a := q) (b := redG p q) (Int.gcd_dvd_right ..)
    apply Classical.byContradiction; intro h2
    have h3 : 0 ≤ q / redG p q * redG p q := Int.mul_nonneg (by omega) (by omega)
    omega
def s_red : Spec := fun args S => match args, S with
  | [.int .i64 p, .int .i64 q], [] => ⟨q ≠ 0 ∧ (-9223372036854775807 ≤ p ∧ p ≤ 9223372036854775807) ∧ (-9223372036854775807 ≤ q ∧ q ≤ 9223372036854775807), .tup [.agg [.int .i64 (if redOk p q = true then redP p q else 0), .int .i64 (if redOk p q = true then redQ p q else 0)], .int .i64 (if redOk p q = true then 0 else 3)], []⟩
  | _, _ => noSpec
theorem ok_l01Reduced : SpecOk Try.prog 87 s_red := by
  intro args S h; unfold s_red at h ⊢; (split at h <;> first | exact False.elim h | skip)
  dsimp only at h ⊢
  rename_i p q
  obtain ⟨h0, hp, hq⟩ := h
  have hg := redG_pos (p := p) h0
  have hgl := redG_le (p := p) h0 hq
  have hb := red_bound h0 hp hq
  have hs := red_sign (p := p) h0
  have e : (Int.gcd (p.natAbs : Int) (q.natAbs : Int) : Int) = redG p q := by simp [Int.gcd, redG]
  refine funW tabOk (E := [(79, s_fOk), (106, s_gcdN), (80, s_abs)]) ⟨ok_l01Ok, ok_l01Gcd, ok_l01Abs, trivial⟩ [] (k := 0) (fn := Try.f87) rfl rfl rfl rfl rfl rfl ?_
  (repeat' ((try (conv => whnf)); first | (with_reducible first | refine And.intro ?_ ?_ | refine WX.of ?_ | exact VC.mk rfl | exact True.intro | exact VC.mk ⟨rfl, fun e => e⟩ | exact VC.mk ⟨fun e => e, rfl⟩ | exact VC.mk (Nat.le_refl _) | exact drawOk_i (by decide +kernel) (by decide +kernel) (by decide +kernel)) | ((with_reducible refine VC.mk ?_); first | (dsimp only; done) | omega | (congr 1; (try simp (disch := omega) only [w64]); omega) | exact ⟨rfl, rfl⟩ | (refine ⟨?_, ?_, ?_⟩; assumption; assumption; omega) | (refine ⟨Nat.le_trans (Nat.mul_le_mul_left _ (m := 1000) ?_) ?_, ?_⟩; decide; omega; omega)) | with_reducible refine splitT ?_ | with_reducible refine splitF ?_ | ((with_reducible refine splitB.mk (fun h => ?_) (fun h => ?_)) <;> (try simp only [decide_eq_true_eq, decide_eq_false_iff_not, ne_eq, Decidable.not_not, Int.not_lt, Int.not_le, Bool.not_eq_true', Bool.not_eq_false'] at h) <;> (try simp (disch := omega) only [w64] at h) <;> (try (exfalso; first | omega | exact h True.intro | (simp only [and_self, not_true_eq_false] at h; done) | (simp only [beq_self_eq_true, Bool.true_eq_false, reduceCtorEq] at h; done)))) | (with_reducible intro hz; (try exact absurd hz (Nat.succ_ne_zero _)))))
  all_goals
    rename_i hq'
    simp (disch := omega) only [e, red_p, red_q, w64, Int.zero_sub] at h hq' ⊢
    first | rw [hs] at hq' | (rw [← Int.not_lt, hs] at hq')
    refine ⟨?_⟩
    simp [redOk, redP, redQ, h, hq']
def fracS (p q : Int) : SV := .agg [.int .i64 p, .int .i64 q]
/-- What fracOf answers. -/
def s_fracOf : Spec := fun args S => match args, S with
  | [.int .i64 p, .int .i64 q], [] => ⟨q ≠ 0 ∧ (-9223372036854775807 ≤ p ∧ p ≤ 9223372036854775807) ∧ (-9223372036854775807 ≤ q ∧ q ≤ 9223372036854775807), .tup [.agg [.int .i64 (if redOk p q = true then redP p q else 0), .int .i64 (if redOk p q = true then redQ p q else 0)], .bool (redOk p q)], []⟩
  | _, _ => noSpec
theorem redG_neg (p q : Int) : (Int.gcd (-p) (-q) : Int) = redG p q := by simp [redG]
theorem ok_fracOf : SpecOk Try.prog 90 s_fracOf := by
  intro args S h; unfold s_fracOf at h ⊢; (split at h <;> first | exact False.elim h | skip)
  dsimp only at h ⊢
  rename_i p q
  obtain ⟨h0, hp, hq⟩ := h
  have hg := redG_pos (p := p) h0
  have hgl := redG_le (p := p) h0 hq
  have hb := red_bound h0 hp hq
  have hs := red_sign (p := p) h0
  have e : (Int.gcd p q : Int) = redG p q := rfl
  have e2 := redG_neg p q
  refine funW tabOk (E := [(37, s_fOk), (72, s_gcd)]) ⟨ok_ValidFrac, ok_gcd, trivial⟩ [] (k := 0) (fn := Try.f90) rfl rfl rfl rfl rfl rfl ?_
  (repeat' ((try (conv => whnf)); first | (with_reducible first | refine And.intro ?_ ?_ | refine WX.of ?_ | exact VC.mk rfl | exact True.intro | exact VC.mk ⟨rfl, fun e => e⟩ | exact VC.mk ⟨fun e => e, rfl⟩ | exact VC.mk (Nat.le_refl _) | exact drawOk_i (by decide +kernel) (by decide +kernel) (by decide +kernel)) | ((with_reducible refine VC.mk ?_); first | (dsimp only; done) | omega | (congr 1; (try simp (disch := omega) only [w64]); omega) | exact ⟨rfl, rfl⟩ | (refine ⟨?_, ?_, ?_⟩; assumption; assumption; omega) | (refine ⟨Nat.le_trans (Nat.mul_le_mul_left _ (m := 1000) ?_) ?_, ?_⟩; decide; omega; omega)) | ((with_reducible refine VC.mk ?_); simp (disch := omega) only [w64, Int.zero_sub, e, e2]; omega) | with_reducible refine splitT ?_ | with_reducible refine splitF ?_ | ((with_reducible refine splitB.mk (fun h => ?_) (fun h => ?_)) <;> (try simp only [decide_eq_true_eq, decide_eq_false_iff_not, ne_eq, Decidable.not_not, Int.not_lt, Int.not_le, Bool.not_eq_true', Bool.not_eq_false'] at h) <;> (try simp (disch := omega) only [w64] at h) <;> (try (exfalso; first | omega | exact h True.intro | (simp only [and_self, not_true_eq_false] at h; done) | (simp only [beq_self_eq_true, Bool.true_eq_false, reduceCtorEq] at h; done)))) | (with_reducible intro hz; (try exact absurd hz (Nat.succ_ne_zero _)))))
  all_goals
    rename_i hq'
    simp (disch := omega) only [e, e2, red_p, red_q, red_np, red_nq, w64, Int.zero_sub] at h ⊢
    refine ⟨?_⟩
    first | (simp [redOk, redP, redQ, h, hq']; done) | simp [redOk, redP, redQ, h, show ¬ q < 0 by omega]
/-- What told answers: 0 where it is no valid fraction. -/
def tolP (p q : Int) : Int := if redOk p q = true then redP p q else 0
def tolQ (p q : Int) : Int := if redOk p q = true then redQ p q else 1
def s_told : Spec := fun args S => match args, S with
  | [.ptr b 0 0, .int .i64 p, .int .i64 q], [.arr .bool [bad] 0 true] => ⟨b = 0 ∧ q ≠ 0 ∧ (-9223372036854775807 ≤ p ∧ p ≤ 9223372036854775807) ∧ (-9223372036854775807 ≤ q ∧ q ≤ 9223372036854775807), .agg [.int .i64 (tolP p q), .int .i64 (tolQ p q)], [.arr .bool [bad || !redOk p q] 0 true]⟩
  | _, _ => noSpec
def s_zero : Spec := fun args S => match args, S with
  | [], [] => ⟨True, .agg [.int .i64 0, .int .i64 1], []⟩
  | _, _ => noSpec
theorem ok_zero : SpecOk Try.prog 61 s_zero := by
  intro args S h; unfold s_zero at h ⊢; (split at h <;> first | exact False.elim h | skip)
  dsimp only at h ⊢
  refine funW tabOk (E := []) trivial [] (k := 0) (fn := Try.f61) rfl rfl rfl rfl rfl rfl ?_
  (repeat' ((try (conv => whnf)); first | (with_reducible first | refine And.intro ?_ ?_ | refine WX.of ?_ | exact VC.mk rfl | exact True.intro | exact VC.mk ⟨rfl, fun e => e⟩ | exact VC.mk ⟨fun e => e, rfl⟩ | exact VC.mk (Nat.le_refl _) | exact drawOk_i (by decide +kernel) (by decide +kernel) (by decide +kernel)) | ((with_reducible refine VC.mk ?_); first | (dsimp only; done) | omega | (congr 1; (try simp (disch := omega) only [w64]); omega) | exact ⟨rfl, rfl⟩ | (refine ⟨?_, ?_, ?_⟩; assumption; assumption; omega) | (refine ⟨Nat.le_trans (Nat.mul_le_mul_left _ (m := 1000) ?_) ?_, ?_⟩; decide; omega; omega)) | with_reducible refine splitT ?_ | with_reducible refine splitF ?_ | ((with_reducible refine splitB.mk (fun h => ?_) (fun h => ?_)) <;> (try simp only [decide_eq_true_eq, decide_eq_false_iff_not, ne_eq, Decidable.not_not, Int.not_lt, Int.not_le, Bool.not_eq_true', Bool.not_eq_false'] at h) <;> (try simp (disch := omega) only [w64] at h) <;> (try (exfalso; first | omega | exact h True.intro | (simp only [and_self, not_true_eq_false] at h; done) | (simp only [beq_self_eq_true, Bool.true_eq_false, reduceCtorEq] at h; done)))) | (with_reducible intro hz; (try exact absurd hz (Nat.succ_ne_zero _)))))
theorem ok_told : SpecOk Try.prog 55 s_told := by
  intro args S h; unfold s_told at h ⊢; (split at h <;> first | exact False.elim h | skip)
  dsimp only at h ⊢
  rename_i b p q bad
  obtain ⟨rfl, h0, hp, hq⟩ := h
  refine funW tabOk (E := [(90, s_fracOf), (61, s_zero)]) ⟨ok_fracOf, ok_zero, trivial⟩ [] (k := 1) (fn := Try.f55) rfl rfl rfl rfl rfl rfl ?_
  (repeat' ((try (conv => whnf)); first | (with_reducible first | refine And.intro ?_ ?_ | refine WX.of ?_ | exact VC.mk rfl | exact True.intro | exact VC.mk ⟨rfl, fun e => e⟩ | exact VC.mk ⟨fun e => e, rfl⟩ | exact VC.mk (Nat.le_refl _) | exact drawOk_i (by decide +kernel) (by decide +kernel) (by decide +kernel)) | ((with_reducible refine VC.mk ?_); first | (dsimp only; done) | omega | (congr 1; (try simp (disch := omega) only [w64]); omega) | exact ⟨rfl, rfl⟩ | (refine ⟨?_, ?_, ?_⟩; assumption; assumption; omega) | (refine ⟨Nat.le_trans (Nat.mul_le_mul_left _ (m := 1000) ?_) ?_, ?_⟩; decide; omega; omega)) | with_reducible refine splitT ?_ | with_reducible refine splitF ?_ | ((with_reducible refine splitB.mk (fun h => ?_) (fun h => ?_)) <;> (try simp only [decide_eq_true_eq, decide_eq_false_iff_not, ne_eq, Decidable.not_not, Int.not_lt, Int.not_le, Bool.not_eq_true', Bool.not_eq_false'] at h) <;> (try simp (disch := omega) only [w64] at h) <;> (try (exfalso; first | omega | exact h True.intro | (simp only [and_self, not_true_eq_false] at h; done) | (simp only [beq_self_eq_true, Bool.true_eq_false, reduceCtorEq] at h; done)))) | (with_reducible intro hz; (try exact absurd hz (Nat.succ_ne_zero _)))))
  all_goals (refine ⟨?_⟩; simp [tolP, tolQ, h])
def s_one : Spec := fun args S => match args, S with
  | [.ptr b 0 0, .agg [.int .i64 p, .int .i64 q]], [.arr .bool [bad] 0 true] => ⟨b = 0, .tup [.agg [.int .i64 (if bad = true then 0 else p), .int .i64 (if bad = true then 0 else q)], .int .i64 (if bad = true then 3 else 0)], [.arr .bool [bad] 0 true]⟩
  | _, _ => noSpec
theorem ok_one : SpecOk Try.prog 60 s_one := by
  intro args S h; unfold s_one at h ⊢; (split at h <;> first | exact False.elim h | skip)
  dsimp only at h ⊢
  rename_i b p q bad
  subst h
  refine funW tabOk (E := []) trivial [] (k := 1) (fn := Try.f60) rfl rfl rfl rfl rfl rfl ?_
  (repeat' ((try (conv => whnf)); first | (with_reducible first | refine And.intro ?_ ?_ | refine WX.of ?_ | exact VC.mk rfl | exact True.intro | exact VC.mk ⟨rfl, fun e => e⟩ | exact VC.mk ⟨fun e => e, rfl⟩ | exact VC.mk (Nat.le_refl _) | exact drawOk_i (by decide +kernel) (by decide +kernel) (by decide +kernel)) | ((with_reducible refine VC.mk ?_); first | (dsimp only; done) | omega | (congr 1; (try simp (disch := omega) only [w64]); omega) | exact ⟨rfl, rfl⟩ | (refine ⟨?_, ?_, ?_⟩; assumption; assumption; omega) | (refine ⟨Nat.le_trans (Nat.mul_le_mul_left _ (m := 1000) ?_) ?_, ?_⟩; decide; omega; omega)) | with_reducible refine splitT ?_ | with_reducible refine splitF ?_ | ((with_reducible refine splitB.mk (fun h => ?_) (fun h => ?_)) <;> (try simp only [decide_eq_true_eq, decide_eq_false_iff_not, ne_eq, Decidable.not_not, Int.not_lt, Int.not_le, Bool.not_eq_true', Bool.not_eq_false'] at h) <;> (try simp (disch := omega) only [w64] at h) <;> (try (exfalso; first | omega | exact h True.intro | (simp only [and_self, not_true_eq_false] at h; done) | (simp only [beq_self_eq_true, Bool.true_eq_false, reduceCtorEq] at h; done)))) | (with_reducible intro hz; (try exact absurd hz (Nat.succ_ne_zero _)))))
  all_goals (refine ⟨?_⟩; simp [h])
end Go.Proofs.Ytbmejhabgoimeaa.Eng
