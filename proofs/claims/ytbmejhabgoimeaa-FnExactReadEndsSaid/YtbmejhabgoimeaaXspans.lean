/- spans: lemmas for the proof, no conditions of their own. -/
import Derived.Test.YtbmejhabgoimeaaXvalid
set_option linter.unusedVariables false
set_option linter.unusedSimpArgs false
namespace Go.Proofs.Ytbmejhabgoimeaa.Eng
open Go Go.RowKit
set_option maxRecDepth 100000
/-- Scaling changes no reduced fraction. -/
theorem redG_mul {g x y : Int} (hg : 0 < g) : redG (g * x) (g * y) = g * redG x y := by
  unfold redG
  rw [Int.gcd_mul_left]; push_cast
  rw [Int.natAbs_of_nonneg (by omega)]
theorem red_scale {g x y : Int} (hg : 0 < g) (hy : y ≠ 0) : redP (g * x) (g * y) = redP x y ∧ redQ (g * x) (g * y) = redQ x y := by
  have h1 : g * y < 0 ↔ y < 0 := by
    constructor
    · intro h; apply Classical.byContradiction; intro h2
      have := Int.mul_nonneg (show 0 ≤ g by omega) (show 0 ≤ y by omega); omega
    · intro h; exact Int.mul_neg_of_pos_of_neg hg h
  unfold redP redQ
  rw [redG_mul hg, Int.mul_ediv_mul_of_pos _ _ hg, Int.mul_ediv_mul_of_pos _ _ hg]
  by_cases h : y < 0
  · rw [if_pos h, if_pos (h1.2 h), if_pos h, if_pos (h1.2 h)]; exact ⟨rfl, rfl⟩
  · rw [if_neg h, if_neg (fun h2 => h (h1.1 h2)), if_neg h, if_neg (fun h2 => h (h1.1 h2))]; exact ⟨rfl, rfl⟩
theorem red_pos {p q : Int} (hq : 0 < q) : redP p q = p / redG p q ∧ redQ p q = q / redG p q := by
  unfold redP redQ; rw [if_neg (by omega), if_neg (by omega)]; exact ⟨rfl, rfl⟩
theorem red_back {p q : Int} (hq : 0 < q) : p = redG p q * redP p q ∧ q = redG p q * redQ p q := by
  rw [(red_pos hq).1, (red_pos hq).2]
  exact ⟨(Int.mul_ediv_cancel' (Int.gcd_dvd_left ..)).symm, (Int.mul_ediv_cancel' (Int.gcd_dvd_right ..)).symm⟩
theorem redQ_pos {p q : Int} (hq : 0 < q) : 0 < redQ p q := by
  have hg := redG_pos (p := p) (q := q) (by omega)
  have h := (red_back (p := p) hq).2
  apply Classical.byContradiction; intro h2
  have h3 : redG p q * redQ p q ≤ 0 := by
    have := Int.mul_nonneg (show 0 ≤ redG p q by omega) (show 0 ≤ -redQ p q by omega)
    rw [Int.mul_neg] at this; omega
  omega
/-- Small fractions are valid. -/
theorem redOk_small {p q : Int} (hp : -1000000000 ≤ p ∧ p ≤ 1000000000) (hq : 1 ≤ q ∧ q ≤ 1000000000) : redOk p q = true := by
  have hg := redG_pos (p := p) (q := q) (by omega)
  have e := red_pos (p := p) (q := q) (by omega)
  have h1 := redQ_pos (p := p) (q := q) (by omega)
  have h2 := ediv_small hg hp
  have h3 := ediv_small hg (p := q) (M := 1000000000) (by omega)
  have hgc : Int.gcd (redP p q) (redQ p q) = 1 := by
    rw [e.1, e.2]
    exact Int.gcd_ediv_gcd_ediv_gcd (by unfold redG at hg; omega)
  unfold redOk
  rw [fOk_iff]
  rw [← e.1, ← e.2] at *
  exact ⟨by omega, by omega, by omega, by omega, hgc⟩
/-- Comparing. -/
def cmpF (p q p' q' : Int) : Int := if p * q' < p' * q then -1 else if p * q' > p' * q then 1 else 0
def s_cmp : Spec := fun args S => match args, S with
  | [.agg [.int .i64 p, .int .i64 q], .agg [.int .i64 p', .int .i64 q']], [] => ⟨smF p q ∧ smF p' q', .int .i64 (cmpF p q p' q'), []⟩
  | _, _ => noSpec
theorem ok_compare : SpecOk Try.prog 38 s_cmp := by
  intro args S h; unfold s_cmp at h ⊢; (split at h <;> first | exact False.elim h | skip)
  dsimp only at h ⊢
  rename_i p q p' q'
  have hm := smF_mul h.1 h.2
  have hm' := smF_mul h.2 h.1
  refine funW tabOk (E := []) trivial [] (k := 0) (fn := Try.f38) rfl rfl rfl rfl rfl rfl ?_
  (repeat' ((try (conv => whnf)); first | (with_reducible first | refine And.intro ?_ ?_ | refine WX.of ?_ | exact VC.mk rfl | exact True.intro | exact VC.mk ⟨rfl, fun e => e⟩ | exact VC.mk ⟨fun e => e, rfl⟩ | exact VC.mk (Nat.le_refl _) | exact drawOk_i (by decide +kernel) (by decide +kernel) (by decide +kernel)) | ((with_reducible refine VC.mk ?_); first | (dsimp only; done) | omega | (congr 1; (try simp (disch := omega) only [w64]); omega) | exact ⟨rfl, rfl⟩ | (refine ⟨?_, ?_, ?_⟩; assumption; assumption; omega) | (refine ⟨Nat.le_trans (Nat.mul_le_mul_left _ (m := 1000) ?_) ?_, ?_⟩; decide; omega; omega)) | with_reducible refine splitT ?_ | with_reducible refine splitF ?_ | ((with_reducible refine splitB.mk (fun h => ?_) (fun h => ?_)) <;> (try simp only [decide_eq_true_eq, decide_eq_false_iff_not, ne_eq, Decidable.not_not, Int.not_lt, Int.not_le, Bool.not_eq_true', Bool.not_eq_false'] at h) <;> (try simp (disch := omega) only [w64] at h) <;> (try (exfalso; first | omega | exact h True.intro | (simp only [and_self, not_true_eq_false] at h; done) | (simp only [beq_self_eq_true, Bool.true_eq_false, reduceCtorEq] at h; done)))) | (with_reducible intro hz; (try exact absurd hz (Nat.succ_ne_zero _)))))
  all_goals (refine ⟨?_⟩; unfold cmpF; first | (rw [if_pos (by omega)]; done) | (rw [if_neg (by omega), if_pos (by omega)]; done) | (rw [if_neg (by omega), if_neg (by omega)]))
theorem ok_l01Cmp : SpecOk Try.prog 105 s_cmp := by
  intro args S h; unfold s_cmp at h ⊢; (split at h <;> first | exact False.elim h | skip)
  dsimp only at h ⊢
  rename_i p q p' q'
  have hm := smF_mul h.1 h.2
  have hm' := smF_mul h.2 h.1
  refine funW tabOk (E := []) trivial [] (k := 0) (fn := Try.f105) rfl rfl rfl rfl rfl rfl ?_
  (repeat' ((try (conv => whnf)); first | (with_reducible first | refine And.intro ?_ ?_ | refine WX.of ?_ | exact VC.mk rfl | exact True.intro | exact VC.mk ⟨rfl, fun e => e⟩ | exact VC.mk ⟨fun e => e, rfl⟩ | exact VC.mk (Nat.le_refl _) | exact drawOk_i (by decide +kernel) (by decide +kernel) (by decide +kernel)) | ((with_reducible refine VC.mk ?_); first | (dsimp only; done) | omega | (congr 1; (try simp (disch := omega) only [w64]); omega) | exact ⟨rfl, rfl⟩ | (refine ⟨?_, ?_, ?_⟩; assumption; assumption; omega) | (refine ⟨Nat.le_trans (Nat.mul_le_mul_left _ (m := 1000) ?_) ?_, ?_⟩; decide; omega; omega)) | with_reducible refine splitT ?_ | with_reducible refine splitF ?_ | ((with_reducible refine splitB.mk (fun h => ?_) (fun h => ?_)) <;> (try simp only [decide_eq_true_eq, decide_eq_false_iff_not, ne_eq, Decidable.not_not, Int.not_lt, Int.not_le, Bool.not_eq_true', Bool.not_eq_false'] at h) <;> (try simp (disch := omega) only [w64] at h) <;> (try (exfalso; first | omega | exact h True.intro | (simp only [and_self, not_true_eq_false] at h; done) | (simp only [beq_self_eq_true, Bool.true_eq_false, reduceCtorEq] at h; done)))) | (with_reducible intro hz; (try exact absurd hz (Nat.succ_ne_zero _)))))
  all_goals (refine ⟨?_⟩; unfold cmpF; first | (rw [if_pos (by omega)]; done) | (rw [if_neg (by omega), if_pos (by omega)]; done) | (rw [if_neg (by omega), if_neg (by omega)]))
theorem cmpF_le {p q p' q' : Int} : cmpF p q p' q' ≤ 0 ↔ p * q' ≤ p' * q := by unfold cmpF; (repeat' split) <;> omega
theorem cmpF_ge {p q p' q' : Int} : 0 ≤ cmpF p q p' q' ↔ p' * q ≤ p * q' := by unfold cmpF; (repeat' split) <;> omega
theorem cmpF_lt {p q p' q' : Int} : cmpF p q p' q' < 0 ↔ p * q' < p' * q := by unfold cmpF; (repeat' split) <;> omega
theorem cmpF_gt {p q p' q' : Int} : 0 < cmpF p q p' q' ↔ p' * q < p * q' := by unfold cmpF; (repeat' split) <;> omega
theorem cmpF_sw {p q p' q' : Int} : cmpF p q p' q' = -cmpF p' q' p q := by unfold cmpF; (repeat' split) <;> omega
/-- The greater and the lesser one. -/
def moF (p q p' q' : Int) : Int × Int := if p' * q ≤ p * q' then (p, q) else (p', q')
def leF (p q p' q' : Int) : Int × Int := if p * q' ≤ p' * q then (p, q) else (p', q')
def s_more : Spec := fun args S => match args, S with
  | [.agg [.int .i64 p, .int .i64 q], .agg [.int .i64 p', .int .i64 q']], [] => ⟨smF p q ∧ smF p' q', .agg [.int .i64 (moF p q p' q').1, .int .i64 (moF p q p' q').2], []⟩
  | _, _ => noSpec
def s_less : Spec := fun args S => match args, S with
  | [.agg [.int .i64 p, .int .i64 q], .agg [.int .i64 p', .int .i64 q']], [] => ⟨smF p q ∧ smF p' q', .agg [.int .i64 (leF p q p' q').1, .int .i64 (leF p q p' q').2], []⟩
  | _, _ => noSpec
theorem ok_greater : SpecOk Try.prog 115 s_more := by
  intro args S h; unfold s_more at h ⊢; (split at h <;> first | exact False.elim h | skip)
  dsimp only at h ⊢
  rename_i p q p' q'
  have hc := cmpF_ge (p := p) (q := q) (p' := p') (q' := q')
  refine funW tabOk (E := [(38, s_cmp)]) ⟨ok_compare, trivial⟩ [] (k := 0) (fn := Try.f115) rfl rfl rfl rfl rfl rfl ?_
  (repeat' ((try (conv => whnf)); first | (with_reducible first | refine And.intro ?_ ?_ | refine WX.of ?_ | exact VC.mk rfl | exact True.intro | exact VC.mk ⟨rfl, fun e => e⟩ | exact VC.mk ⟨fun e => e, rfl⟩ | exact VC.mk (Nat.le_refl _) | exact drawOk_i (by decide +kernel) (by decide +kernel) (by decide +kernel)) | ((with_reducible refine VC.mk ?_); first | (dsimp only; done) | omega | (congr 1; (try simp (disch := omega) only [w64]); omega) | exact ⟨rfl, rfl⟩ | (refine ⟨?_, ?_, ?_⟩; assumption; assumption; omega) | (refine ⟨Nat.le_trans (Nat.mul_le_mul_left _ (m := 1000) ?_) ?_, ?_⟩; decide; omega; omega)) | with_reducible refine splitT ?_ | with_reducible refine splitF ?_ | ((with_reducible refine splitB.mk (fun h => ?_) (fun h => ?_)) <;> (try simp only [decide_eq_true_eq, decide_eq_false_iff_not, ne_eq, Decidable.not_not, Int.not_lt, Int.not_le, Bool.not_eq_true', Bool.not_eq_false'] at h) <;> (try simp (disch := omega) only [w64] at h) <;> (try (exfalso; first | omega | exact h True.intro | (simp only [and_self, not_true_eq_false] at h; done) | (simp only [beq_self_eq_true, Bool.true_eq_false, reduceCtorEq] at h; done)))) | (with_reducible intro hz; (try exact absurd hz (Nat.succ_ne_zero _)))))
  all_goals (refine ⟨?_⟩; unfold moF; first | rw [if_pos (by omega)] | rw [if_neg (by omega)])
theorem ok_l01More : SpecOk Try.prog 120 s_more := by
  intro args S h; unfold s_more at h ⊢; (split at h <;> first | exact False.elim h | skip)
  dsimp only at h ⊢
  rename_i p q p' q'
  have hc := cmpF_gt (p := p') (q := q') (p' := p) (q' := q)
  refine funW tabOk (E := [(105, s_cmp)]) ⟨ok_l01Cmp, trivial⟩ [] (k := 0) (fn := Try.f120) rfl rfl rfl rfl rfl rfl ?_
  (repeat' ((try (conv => whnf)); first | (with_reducible first | refine And.intro ?_ ?_ | refine WX.of ?_ | exact VC.mk rfl | exact True.intro | exact VC.mk ⟨rfl, fun e => e⟩ | exact VC.mk ⟨fun e => e, rfl⟩ | exact VC.mk (Nat.le_refl _) | exact drawOk_i (by decide +kernel) (by decide +kernel) (by decide +kernel)) | ((with_reducible refine VC.mk ?_); first | (dsimp only; done) | omega | (congr 1; (try simp (disch := omega) only [w64]); omega) | exact ⟨rfl, rfl⟩ | (refine ⟨?_, ?_, ?_⟩; assumption; assumption; omega) | (refine ⟨Nat.le_trans (Nat.mul_le_mul_left _ (m := 1000) ?_) ?_, ?_⟩; decide; omega; omega)) | with_reducible refine splitT ?_ | with_reducible refine splitF ?_ | ((with_reducible refine splitB.mk (fun h => ?_) (fun h => ?_)) <;> (try simp only [decide_eq_true_eq, decide_eq_false_iff_not, ne_eq, Decidable.not_not, Int.not_lt, Int.not_le, Bool.not_eq_true', Bool.not_eq_false'] at h) <;> (try simp (disch := omega) only [w64] at h) <;> (try (exfalso; first | omega | exact h True.intro | (simp only [and_self, not_true_eq_false] at h; done) | (simp only [beq_self_eq_true, Bool.true_eq_false, reduceCtorEq] at h; done)))) | (with_reducible intro hz; (try exact absurd hz (Nat.succ_ne_zero _)))))
  all_goals first | exact ⟨⟨h.2, h.1⟩⟩ | (refine ⟨?_⟩; unfold moF; first | rw [if_pos (by omega)] | rw [if_neg (by omega)])
theorem smF_mo {p q p' q' : Int} (h : smF p q) (h' : smF p' q') : smF (moF p q p' q').1 (moF p q p' q').2 := by unfold moF; split <;> assumption
theorem smF_le {p q p' q' : Int} (h : smF p q) (h' : smF p' q') : smF (leF p q p' q').1 (leF p q p' q').2 := by unfold leF; split <;> assumption
abbrev SpE : ET := .prod (.prod (.int .i64) (.int .i64)) (.prod (.int .i64) (.int .i64))
/-- A valid span. -/
def spOk (p q p' q' : Int) : Bool := fOk p q && fOk p' q' && decide (p * q' ≤ p' * q)
theorem spOk_iff {p q p' q' : Int} : spOk p q p' q' = true ↔ fOk p q = true ∧ fOk p' q' = true ∧ p * q' ≤ p' * q := by simp [spOk, and_assoc]
def s_vSpan : Spec := fun args S => match args, S with
  | [.agg [.int .i64 p, .int .i64 q, .int .i64 p', .int .i64 q']], [] => ⟨True, .bool (spOk p q p' q'), []⟩
  | _, _ => noSpec
theorem allF_two {p q p' q' : Int} : allF (seg [(p, q), (p', q')] 0 2) = (fOk p q && fOk p' q') := by simp [allF, seg]
theorem ok_ValidSpan : SpecOk Try.prog 36 s_vSpan := by
  intro args S h; unfold s_vSpan at h ⊢; (split at h <;> first | exact False.elim h | skip)
  dsimp only at h ⊢
  rename_i p q p' q'
  have hc := cmpF_le (p := p) (q := q) (p' := p') (q' := q')
  refine funW tabOk (E := [(70, s_allF), (38, s_cmp)]) ⟨ok_areValid, ok_compare, trivial⟩ [] (k := 0) (fn := Try.f36) rfl rfl rfl rfl rfl rfl ?_
  (repeat' ((try (conv => whnf)); first | (with_reducible first | refine And.intro ?_ ?_ | refine WX.of ?_ | exact VC.mk rfl | exact True.intro | exact VC.mk ⟨rfl, fun e => e⟩ | exact VC.mk ⟨fun e => e, rfl⟩ | exact VC.mk (Nat.le_refl _) | exact drawOk_i (by decide +kernel) (by decide +kernel) (by decide +kernel)) | ((with_reducible refine VC.mk ?_); first | (dsimp only; done) | omega | (congr 1; (try simp (disch := omega) only [w64]); omega) | exact ⟨rfl, rfl⟩ | (refine ⟨?_, ?_, ?_⟩; assumption; assumption; omega) | (refine ⟨Nat.le_trans (Nat.mul_le_mul_left _ (m := 1000) ?_) ?_, ?_⟩; decide; omega; omega)) | with_reducible refine splitT ?_ | with_reducible refine splitF ?_ | ((with_reducible refine splitB.mk (fun h => ?_) (fun h => ?_)) <;> (try simp only [decide_eq_true_eq, decide_eq_false_iff_not, ne_eq, Decidable.not_not, Int.not_lt, Int.not_le, Bool.not_eq_true', Bool.not_eq_false'] at h) <;> (try simp (disch := omega) only [w64] at h) <;> (try (exfalso; first | omega | exact h True.intro | (simp only [and_self, not_true_eq_false] at h; done) | (simp only [beq_self_eq_true, Bool.true_eq_false, reduceCtorEq] at h; done)))) | (with_reducible intro hz; (try exact absurd hz (Nat.succ_ne_zero _)))))
  · exact ⟨⟨Nat.le_refl 2, by omega⟩⟩
  · rw [allF_two, Bool.and_eq_true] at h
    exact ⟨⟨smF_ok h.1, smF_ok h.2⟩⟩
  · rw [allF_two, Bool.and_eq_true] at h
    refine ⟨congrArg SV.bool ?_⟩
    simp only [hc]; simp [spOk, h]
  · rw [allF_two] at h
    refine ⟨congrArg SV.bool ?_⟩
    simp only [spOk, h]; rfl
def s_l01Span : Spec := fun args S => match args, S with
  | [.ptr 0 i 0], [.arr (.prod (.prod (.int .i64) (.int .i64)) (.prod (.int .i64) (.int .i64))) l sz wr] => ⟨i < l.length, .bool (spOk ((l[i]?).getD ((0, 0), 0, 0)).1.1 ((l[i]?).getD ((0, 0), 0, 0)).1.2 ((l[i]?).getD ((0, 0), 0, 0)).2.1 ((l[i]?).getD ((0, 0), 0, 0)).2.2), [.arr (.prod (.prod (.int .i64) (.int .i64)) (.prod (.int .i64) (.int .i64))) l sz wr]⟩
  | _, _ => noSpec
/-- What is in both. -/
def s_meet : Spec := fun args S => match args, S with
  | [.agg [.int .i64 p, .int .i64 q, .int .i64 p', .int .i64 q'], .agg [.int .i64 r, .int .i64 s, .int .i64 r', .int .i64 s']], [] => ⟨(smF p q ∧ smF p' q') ∧ smF r s ∧ smF r' s', .tup [.agg [.int .i64 (moF p q r s).1, .int .i64 (moF p q r s).2, .int .i64 (leF p' q' r' s').1, .int .i64 (leF p' q' r' s').2], .bool (decide ((moF p q r s).1 * (leF p' q' r' s').2 ≤ (leF p' q' r' s').1 * (moF p q r s).2))], []⟩
  | _, _ => noSpec
end Go.Proofs.Ytbmejhabgoimeaa.Eng
