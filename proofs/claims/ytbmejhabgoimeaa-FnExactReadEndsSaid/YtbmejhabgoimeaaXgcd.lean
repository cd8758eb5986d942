/- gcd: lemmas for the proof, no conditions of their own. -/
import Derived.Test.YtbmejhabgoimeaaXnum
set_option linter.unusedVariables false
set_option linter.unusedSimpArgs false
namespace Go.Proofs.Ytbmejhabgoimeaa.Eng
open Go Go.RowKit
set_option maxRecDepth 100000
def s_gcd : Spec := fun args S => match args, S with
  | [.int .i64 a, .int .i64 b], [] => ⟨-9223372036854775808 < a ∧ a < 9223372036854775808 ∧ -9223372036854775808 < b ∧ b < 9223372036854775808, .int .i64 (Int.gcd a b), []⟩
  | _, _ => noSpec
theorem ok_gcd : SpecOk Try.prog 72 s_gcd := by
  intro args S h; unfold s_gcd at h ⊢; (split at h <;> first | exact False.elim h | skip)
  dsimp only at h ⊢
  rename_i a b
  refine funW tabOk (E := []) trivial [] (k := 0) (fn := Try.f72) rfl rfl rfl rfl rfl rfl ?_
  (repeat' ((try (conv => whnf)); first | (with_reducible first | refine And.intro ?_ ?_ | refine WX.of ?_ | exact VC.mk rfl | exact True.intro | exact VC.mk ⟨rfl, fun e => e⟩ | exact VC.mk ⟨fun e => e, rfl⟩ | exact VC.mk (Nat.le_refl _) | exact drawOk_i (by decide +kernel) (by decide +kernel) (by decide +kernel)) | ((with_reducible refine VC.mk ?_); first | (dsimp only; done) | omega | (congr 1; (try simp (disch := omega) only [w64]); omega) | exact ⟨rfl, rfl⟩ | (refine ⟨?_, ?_, ?_⟩; assumption; assumption; omega) | (refine ⟨Nat.le_trans (Nat.mul_le_mul_left _ (m := 1000) ?_) ?_, ?_⟩; decide; omega; omega)) | with_reducible refine splitT ?_ | with_reducible refine splitF ?_ | ((with_reducible refine splitB.mk (fun h => ?_) (fun h => ?_)) <;> (try simp only [decide_eq_true_eq, decide_eq_false_iff_not, ne_eq, Decidable.not_not, Int.not_lt, Int.not_le, Bool.not_eq_true', Bool.not_eq_false'] at h) <;> (try simp (disch := omega) only [w64] at h) <;> (try (exfalso; first | omega | exact h True.intro | (simp only [and_self, not_true_eq_false] at h; done) | (simp only [beq_self_eq_true, Bool.true_eq_false, reduceCtorEq] at h; done)))) | (with_reducible intro hz; (try exact absurd hz (Nat.succ_ne_zero _)))))
  refine loopW tabOk (E := []) trivial [] (σ := Int × Int) (fun s => [(0, .int .i64 s.1), (1, .int .i64 s.2)]) (fun _ => []) (fun s => s.2.natAbs) (fun s => Int.gcd s.1 s.2 = Int.gcd a b ∧ -9223372036854775808 < s.1 ∧ s.1 < 9223372036854775808 ∧ -9223372036854775808 < s.2 ∧ s.2 < 9223372036854775808) (a, b) ⟨rfl, h⟩ ?_ ?_
  · (repeat' ((try (conv => whnf)); first | (with_reducible first | refine And.intro ?_ ?_ | refine WX.of ?_ | exact VC.mk rfl | exact True.intro | exact VC.mk ⟨rfl, fun e => e⟩ | exact VC.mk ⟨fun e => e, rfl⟩ | exact VC.mk (Nat.le_refl _) | exact drawOk_i (by decide +kernel) (by decide +kernel) (by decide +kernel)) | ((with_reducible refine VC.mk ?_); first | (dsimp only; done) | omega | (congr 1; (try simp (disch := omega) only [w64]); omega) | exact ⟨rfl, rfl⟩ | (refine ⟨?_, ?_, ?_⟩; assumption; assumption; omega) | (refine ⟨Nat.le_trans (Nat.mul_le_mul_left _ (m := 1000) ?_) ?_, ?_⟩; decide; omega; omega)) | with_reducible refine splitT ?_ | with_reducible refine splitF ?_ | ((with_reducible refine splitB.mk (fun h => ?_) (fun h => ?_)) <;> (try simp only [decide_eq_true_eq, decide_eq_false_iff_not, ne_eq, Decidable.not_not, Int.not_lt, Int.not_le, Bool.not_eq_true', Bool.not_eq_false'] at h) <;> (try simp (disch := omega) only [w64] at h) <;> (try (exfalso; first | omega | exact h True.intro | (simp only [and_self, not_true_eq_false] at h; done) | (simp only [beq_self_eq_true, Bool.true_eq_false, reduceCtorEq] at h; done)))) | (with_reducible intro hz; (try exact absurd hz (Nat.succ_ne_zero _)))))
  · rintro ⟨x, y⟩ ⟨hg, hr⟩
    dsimp only at hg hr
    (repeat' ((try (conv => whnf)); first | (with_reducible first | refine And.intro ?_ ?_ | refine WX.of ?_ | exact VC.mk rfl | exact True.intro | exact VC.mk ⟨rfl, fun e => e⟩ | exact VC.mk ⟨fun e => e, rfl⟩ | exact VC.mk (Nat.le_refl _) | exact drawOk_i (by decide +kernel) (by decide +kernel) (by decide +kernel)) | ((with_reducible refine VC.mk ?_); first | (dsimp only; done) | omega | (congr 1; (try simp (disch := omega) only [w64]); omega) | exact ⟨rfl, rfl⟩ | (refine ⟨?_, ?_, ?_⟩; assumption; assumption; omega) | (refine ⟨Nat.le_trans (Nat.mul_le_mul_left _ (m := 1000) ?_) ?_, ?_⟩; decide; omega; omega)) | with_reducible refine splitT ?_ | with_reducible refine splitF ?_ | ((with_reducible refine splitB.mk (fun h => ?_) (fun h => ?_)) <;> (try simp only [decide_eq_true_eq, decide_eq_false_iff_not, ne_eq, Decidable.not_not, Int.not_lt, Int.not_le, Bool.not_eq_true', Bool.not_eq_false'] at h) <;> (try simp (disch := omega) only [w64] at h) <;> (try (exfalso; first | omega | exact h True.intro | (simp only [and_self, not_true_eq_false] at h; done) | (simp only [beq_self_eq_true, Bool.true_eq_false, reduceCtorEq] at h; done)))) | (with_reducible intro hz; (try exact absurd hz (Nat.succ_ne_zero _)))))
    · have := tmod_lt (a := x) h
      refine ⟨(y, x.tmod y), this, ⟨by rw [← hg]; exact gcd_tmod, ?_⟩, ?_⟩
      · dsimp only; omega
      · (repeat' ((try (conv => whnf)); first | (with_reducible first | refine And.intro ?_ ?_ | refine WX.of ?_ | exact VC.mk rfl | exact True.intro | exact VC.mk ⟨rfl, fun e => e⟩ | exact VC.mk ⟨fun e => e, rfl⟩ | exact VC.mk (Nat.le_refl _) | exact drawOk_i (by decide +kernel) (by decide +kernel) (by decide +kernel)) | ((with_reducible refine VC.mk ?_); first | (dsimp only; done) | omega | (congr 1; (try simp (disch := omega) only [w64]); omega) | exact ⟨rfl, rfl⟩ | (refine ⟨?_, ?_, ?_⟩; assumption; assumption; omega) | (refine ⟨Nat.le_trans (Nat.mul_le_mul_left _ (m := 1000) ?_) ?_, ?_⟩; decide; omega; omega)) | with_reducible refine splitT ?_ | with_reducible refine splitF ?_ | ((with_reducible refine splitB.mk (fun h => ?_) (fun h => ?_)) <;> (try simp only [decide_eq_true_eq, decide_eq_false_iff_not, ne_eq, Decidable.not_not, Int.not_lt, Int.not_le, Bool.not_eq_true', Bool.not_eq_false'] at h) <;> (try simp (disch := omega) only [w64] at h) <;> (try (exfalso; first | omega | exact h True.intro | (simp only [and_self, not_true_eq_false] at h; done) | (simp only [beq_self_eq_true, Bool.true_eq_false, reduceCtorEq] at h; done)))) | (with_reducible intro hz; (try exact absurd hz (Nat.succ_ne_zero _)))))
    · subst h
      simp at hg
      dsimp only
      rw [w64 (by omega)]
      refine ⟨?_⟩
      rw [← hg]
      congr 1
      split <;> omega
end Go.Proofs.Ytbmejhabgoimeaa.Eng
