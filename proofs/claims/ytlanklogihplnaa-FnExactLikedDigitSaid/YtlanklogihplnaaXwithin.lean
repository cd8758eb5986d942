/- within: lemmas for the proof, no conditions of their own. -/
import Derived.Test.YtlanklogihplnaaL1
import Derived.Test.YtlanklogihplnaaTy
set_option linter.unusedVariables false
set_option linter.unusedSimpArgs false
namespace Go.Proofs.Ytlanklogihplnaa.Eng
open Go Go.RowKit
set_option maxRecDepth 100000
def s_within : Spec := fun args S => match args, S with
  | [.int .i64 n, .int .i64 a, .int .i64 b], [] => ⟨True, .bool (decide (a ≤ n ∧ n ≤ b)), []⟩
  | _, _ => noSpec
theorem ok_within : SpecOk Try.prog 74 s_within := by
  intro args S h; unfold s_within at h ⊢; (split at h <;> first | exact False.elim h | skip)
  dsimp only at h ⊢
  refine funW tabOk (E := []) trivial [] (k := 0) (fn := Try.f74) rfl rfl rfl rfl rfl rfl ?_
  (repeat' (first | with_reducible refine And.intro ?_ ?_ | with_reducible exact VC.mk rfl | (with_reducible refine VC.mk ?_; dsimp only; done) | (with_reducible refine VC.mk ?_; omega) | (with_reducible refine VC.mk ?_; congr 1; (try simp (disch := omega) only [w64]); omega) | with_reducible exact True.intro | with_reducible exact drawOk_i (by decide +kernel) (by decide +kernel) (by decide +kernel) | exact VC.mk ⟨rfl, fun e => e⟩ | exact VC.mk ⟨rfl, rfl⟩ | ((conv => whnf); first | with_reducible refine And.intro ?_ ?_ | with_reducible exact VC.mk rfl | (with_reducible refine VC.mk ?_; dsimp only; done) | (with_reducible refine VC.mk ?_; omega) | (with_reducible refine VC.mk ?_; congr 1; (try simp (disch := omega) only [w64]); omega) | with_reducible exact True.intro | with_reducible exact drawOk_i (by decide +kernel) (by decide +kernel) (by decide +kernel) | exact VC.mk ⟨rfl, fun e => e⟩ | exact VC.mk ⟨rfl, rfl⟩ | with_reducible refine splitT ?_ | with_reducible refine splitF ?_ | ((with_reducible refine splitB.mk (fun h => ?_) (fun h => ?_)) <;> (try simp only [decide_eq_true_eq, decide_eq_false_iff_not, ne_eq, Decidable.not_not, Int.not_lt, Int.not_le, Bool.not_eq_true', Bool.not_eq_false'] at h) <;> (try simp (disch := omega) only [w64] at h) <;> (try (exfalso; first | omega | exact h True.intro))) | with_reducible intro _))) <;> (try (conv => whnf))
  all_goals (first | exact ⟨rfl⟩ | (refine ⟨?_⟩; simp_all; done) | (refine ⟨?_⟩; simp_all; omega))
theorem ok_l00In : SpecOk Try.prog 84 s_within := by
  intro args S h; unfold s_within at h ⊢; (split at h <;> first | exact False.elim h | skip)
  dsimp only at h ⊢
  refine funW tabOk (E := []) trivial [] (k := 0) (fn := Try.f84) rfl rfl rfl rfl rfl rfl ?_
  (repeat' (first | with_reducible refine And.intro ?_ ?_ | with_reducible exact VC.mk rfl | (with_reducible refine VC.mk ?_; dsimp only; done) | (with_reducible refine VC.mk ?_; omega) | (with_reducible refine VC.mk ?_; congr 1; (try simp (disch := omega) only [w64]); omega) | with_reducible exact True.intro | with_reducible exact drawOk_i (by decide +kernel) (by decide +kernel) (by decide +kernel) | exact VC.mk ⟨rfl, fun e => e⟩ | exact VC.mk ⟨rfl, rfl⟩ | ((conv => whnf); first | with_reducible refine And.intro ?_ ?_ | with_reducible exact VC.mk rfl | (with_reducible refine VC.mk ?_; dsimp only; done) | (with_reducible refine VC.mk ?_; omega) | (with_reducible refine VC.mk ?_; congr 1; (try simp (disch := omega) only [w64]); omega) | with_reducible exact True.intro | with_reducible exact drawOk_i (by decide +kernel) (by decide +kernel) (by decide +kernel) | exact VC.mk ⟨rfl, fun e => e⟩ | exact VC.mk ⟨rfl, rfl⟩ | with_reducible refine splitT ?_ | with_reducible refine splitF ?_ | ((with_reducible refine splitB.mk (fun h => ?_) (fun h => ?_)) <;> (try simp only [decide_eq_true_eq, decide_eq_false_iff_not, ne_eq, Decidable.not_not, Int.not_lt, Int.not_le, Bool.not_eq_true', Bool.not_eq_false'] at h) <;> (try simp (disch := omega) only [w64] at h) <;> (try (exfalso; first | omega | exact h True.intro))) | with_reducible intro _))) <;> (try (conv => whnf))
  all_goals (first | exact ⟨rfl⟩ | (refine ⟨?_⟩; simp_all; done) | (refine ⟨?_⟩; simp_all; omega))
end Go.Proofs.Ytlanklogihplnaa.Eng
