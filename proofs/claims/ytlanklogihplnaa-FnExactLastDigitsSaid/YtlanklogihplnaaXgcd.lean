/- gcd: lemmas for the proof, no conditions of their own. -/
import Derived.Test.YtlanklogihplnaaXnum
set_option linter.unusedVariables false
set_option linter.unusedSimpArgs false
namespace Go.Proofs.Ytlanklogihplnaa.Eng
open Go Go.RowKit
set_option maxRecDepth 100000
def s_gcd : Spec := fun args S => match args, S with
  | [.int .i64 a, .int .i64 b], [] => ⟨-9223372036854775808 < a ∧ a < 9223372036854775808 ∧ -9223372036854775808 < b ∧ b < 9223372036854775808, .int .i64 (Int.gcd a b), []⟩
  | _, _ => noSpec
theorem ok_gcd : SpecOk Try.prog 46 s_gcd := by
  intro args S h; unfold s_gcd at h ⊢; (split at h <;> first | exact False.elim h | skip)
  dsimp only at h ⊢
  rename_i a b
  refine funW tabOk (E := []) trivial [] (k := 0) (fn := Try.f46) rfl rfl rfl rfl rfl rfl ?_
  (repeat' (first | with_reducible refine And.intro ?_ ?_ | with_reducible exact VC.mk rfl | (with_reducible refine VC.mk ?_; dsimp only; done) | (with_reducible refine VC.mk ?_; omega) | (with_reducible refine VC.mk ?_; congr 1; (try simp (disch := omega) only [w64]); omega) | with_reducible exact True.intro | with_reducible exact drawOk_i (by decide +kernel) (by decide +kernel) (by decide +kernel) | exact VC.mk ⟨rfl, fun e => e⟩ | exact VC.mk ⟨rfl, rfl⟩ | ((conv => whnf); first | with_reducible refine And.intro ?_ ?_ | with_reducible exact VC.mk rfl | (with_reducible refine VC.mk ?_; dsimp only; done) | (with_reducible refine VC.mk ?_; omega) | (with_reducible refine VC.mk ?_; congr 1; (try simp (disch := omega) only [w64]); omega) | with_reducible exact True.intro | with_reducible exact drawOk_i (by decide +kernel) (by decide +kernel) (by decide +kernel) | exact VC.mk ⟨rfl, fun e => e⟩ | exact VC.mk ⟨rfl, rfl⟩ | with_reducible refine splitT ?_ | with_reducible refine splitF ?_ | ((with_reducible refine splitB.mk (fun h => ?_) (fun h => ?_)) <;> (try simp only [decide_eq_true_eq, decide_eq_false_iff_not, ne_eq, Decidable.not_not, Int.not_lt, Int.not_le, Bool.not_eq_true', Bool.not_eq_false'] at h) <;> (try (exfalso; first | omega | exact h True.intro))) | with_reducible intro _))) <;> (try (conv => whnf))
  refine loopW tabOk (E := []) trivial [] (σ := Int × Int) (fun s => [(0, .int .i64 s.1), (1, .int .i64 s.2)]) (fun _ => []) (fun s => s.2.natAbs) (fun s => Int.gcd s.1 s.2 = Int.gcd a b ∧ -9223372036854775808 < s.1 ∧ s.1 < 9223372036854775808 ∧ -9223372036854775808 < s.2 ∧ s.2 < 9223372036854775808) (a, b) ⟨rfl, h⟩ ?_ ?_
  · (repeat' (first | with_reducible refine And.intro ?_ ?_ | with_reducible exact VC.mk rfl | (with_reducible refine VC.mk ?_; dsimp only; done) | (with_reducible refine VC.mk ?_; omega) | (with_reducible refine VC.mk ?_; congr 1; (try simp (disch := omega) only [w64]); omega) | with_reducible exact True.intro | with_reducible exact drawOk_i (by decide +kernel) (by decide +kernel) (by decide +kernel) | exact VC.mk ⟨rfl, fun e => e⟩ | exact VC.mk ⟨rfl, rfl⟩ | ((conv => whnf); first | with_reducible refine And.intro ?_ ?_ | with_reducible exact VC.mk rfl | (with_reducible refine VC.mk ?_; dsimp only; done) | (with_reducible refine VC.mk ?_; omega) | (with_reducible refine VC.mk ?_; congr 1; (try simp (disch := omega) only [w64]); omega) | with_reducible exact True.intro | with_reducible exact drawOk_i (by decide +kernel) (by decide +kernel) (by decide +kernel) | exact VC.mk ⟨rfl, fun e => e⟩ | exact VC.mk ⟨rfl, rfl⟩ | with_reducible refine splitT ?_ | with_reducible refine splitF ?_ | ((with_reducible refine splitB.mk (fun h => ?_) (fun h => ?_)) <;> (try simp only [decide_eq_true_eq, decide_eq_false_iff_not, ne_eq, Decidable.not_not, Int.not_lt, Int.not_le, Bool.not_eq_true', Bool.not_eq_false'] at h) <;> (try (exfalso; first | omega | exact h True.intro))) | with_reducible intro _))) <;> (try (conv => whnf))
  · rintro ⟨x, y⟩ ⟨hg, hr⟩
    dsimp only at hg hr
    (repeat' (first | with_reducible refine And.intro ?_ ?_ | with_reducible exact VC.mk rfl | (with_reducible refine VC.mk ?_; dsimp only; done) | (with_reducible refine VC.mk ?_; omega) | (with_reducible refine VC.mk ?_; congr 1; (try simp (disch := omega) only [w64]); omega) | with_reducible exact True.intro | with_reducible exact drawOk_i (by decide +kernel) (by decide +kernel) (by decide +kernel) | exact VC.mk ⟨rfl, fun e => e⟩ | exact VC.mk ⟨rfl, rfl⟩ | ((conv => whnf); first | with_reducible refine And.intro ?_ ?_ | with_reducible exact VC.mk rfl | (with_reducible refine VC.mk ?_; dsimp only; done) | (with_reducible refine VC.mk ?_; omega) | (with_reducible refine VC.mk ?_; congr 1; (try simp (disch := omega) only [w64]); omega) | with_reducible exact True.intro | with_reducible exact drawOk_i (by decide +kernel) (by decide +kernel) (by decide +kernel) | exact VC.mk ⟨rfl, fun e => e⟩ | exact VC.mk ⟨rfl, rfl⟩ | with_reducible refine splitT ?_ | with_reducible refine splitF ?_ | ((with_reducible refine splitB.mk (fun h => ?_) (fun h => ?_)) <;> (try simp only [decide_eq_true_eq, decide_eq_false_iff_not, ne_eq, Decidable.not_not, Int.not_lt, Int.not_le, Bool.not_eq_true', Bool.not_eq_false'] at h) <;> (try (exfalso; first | omega | exact h True.intro))) | with_reducible intro _))) <;> (try (conv => whnf))
    · have := tmod_lt (a := x) h
      refine ⟨(y, x.tmod y), this, ⟨by rw [← hg]; exact gcd_tmod, ?_⟩, ?_⟩
      · dsimp only; omega
      · (repeat' (first | with_reducible refine And.intro ?_ ?_ | with_reducible exact VC.mk rfl | (with_reducible refine VC.mk ?_; dsimp only; done) | (with_reducible refine VC.mk ?_; omega) | (with_reducible refine VC.mk ?_; congr 1; (try simp (disch := omega) only [w64]); omega) | with_reducible exact True.intro | with_reducible exact drawOk_i (by decide +kernel) (by decide +kernel) (by decide +kernel) | exact VC.mk ⟨rfl, fun e => e⟩ | exact VC.mk ⟨rfl, rfl⟩ | ((conv => whnf); first | with_reducible refine And.intro ?_ ?_ | with_reducible exact VC.mk rfl | (with_reducible refine VC.mk ?_; dsimp only; done) | (with_reducible refine VC.mk ?_; omega) | (with_reducible refine VC.mk ?_; congr 1; (try simp (disch := omega) only [w64]); omega) | with_reducible exact True.intro | with_reducible exact drawOk_i (by decide +kernel) (by decide +kernel) (by decide +kernel) | exact VC.mk ⟨rfl, fun e => e⟩ | exact VC.mk ⟨rfl, rfl⟩ | with_reducible refine splitT ?_ | with_reducible refine splitF ?_ | ((with_reducible refine splitB.mk (fun h => ?_) (fun h => ?_)) <;> (try simp only [decide_eq_true_eq, decide_eq_false_iff_not, ne_eq, Decidable.not_not, Int.not_lt, Int.not_le, Bool.not_eq_true', Bool.not_eq_false'] at h) <;> (try (exfalso; first | omega | exact h True.intro))) | with_reducible intro _))) <;> (try (conv => whnf))
    · subst h
      simp at hg
      dsimp only
      rw [w64 (by omega)]
      refine ⟨?_⟩
      rw [← hg]
      congr 1
      split <;> omega
end Go.Proofs.Ytlanklogihplnaa.Eng
