/- lawReadingOf: lemmas for the proof, no conditions of their own. -/
import Derived.Test.YtlanklogihplnaaXhabit
import Derived.Test.YtlanklogihplnaaXmean
set_option linter.unusedVariables false
set_option linter.unusedSimpArgs false
namespace Go.Proofs.Ytlanklogihplnaa.Eng
open Go Go.RowKit
set_option maxRecDepth 100000
theorem ok_i16 {b : Int} (h : ET.Ok (.int .i16) b) : -32768 ≤ b ∧ b ≤ 32767 := by
  simpa [ET.Ok, IntKind.min, IntKind.max, IntKind.signed, IntKind.bits] using h
theorem ok_i64 {b : Int} (h : ET.Ok (.int .i64) b) : -9223372036854775808 ≤ b ∧ b ≤ 9223372036854775807 := by
  simpa [ET.Ok, IntKind.min, IntKind.max, IntKind.signed, IntKind.bits] using h
theorem ok_str {s : List UInt8} (h : ET.Ok .str s) : s.length ≤ 9223372036854775807 := h
theorem law_readingOf {y1 : List UInt8 × Int × Int × Bool} {y2 : Int × Int} (ho1 : ET.Ok (.prod .str (.prod (.int .i16) (.prod (.int .i16) .bool))) y1) (ho2 : ET.Ok (.prod (.int .i64) (.int .i64)) y2) : RunsS Try.prog 7 [.agg (ET.enc (.prod .str (.prod (.int .i16) (.prod (.int .i16) .bool))) y1), .agg (ET.enc (.prod (.int .i64) (.int .i64)) y2)] [] (.bool true) [] := by
  obtain ⟨nm, b, u, up⟩ := y1
  obtain ⟨p, q⟩ := y2
  have hb := ok_i16 ho1.2.1
  have hu := ok_i16 ho1.2.2.1
  have hs := ok_str ho1.1
  dsimp only at hb hu hs
  refine funW tabOk (E := [(24, s_szReader), (21, s_toFrac), (26, s_toReader), (25, s_ReadingOf), (27, s_ReadingOf)]) ⟨ok_szReader, ok_toFrac, ok_toReader, ok_ReadingOfS, ok_ReadingOfI, trivial⟩ [(5, [(2, 0)]), (6, [(2, 0)])] (k := 0) (fn := Try.f7) rfl rfl rfl rfl rfl rfl ?_
  (repeat' (first | with_reducible refine And.intro ?_ ?_ | with_reducible exact VC.mk rfl | (with_reducible refine VC.mk ?_; dsimp only; done) | (with_reducible refine VC.mk ?_; omega) | (with_reducible refine VC.mk ?_; congr 1; (try simp (disch := omega) only [w64]); omega) | with_reducible exact True.intro | with_reducible exact drawOk_i (by decide +kernel) (by decide +kernel) (by decide +kernel) | with_reducible exact VC.mk ⟨rfl, fun e => e⟩ | ((with_reducible refine VC.mk ?_); exact ⟨rfl, rfl⟩) | with_reducible exact VC.mk (Nat.le_refl _) | ((with_reducible refine VC.mk ?_); (with_reducible refine ⟨?_, ?_, ?_⟩); (assumption); (assumption); (omega)) | ((with_reducible refine VC.mk ?_); (with_reducible refine ⟨Nat.le_trans (Nat.mul_le_mul_left _ (m := 1000) ?_) ?_, ?_⟩); (decide); (omega); (omega)) | ((conv => whnf); first | with_reducible refine And.intro ?_ ?_ | with_reducible exact VC.mk rfl | (with_reducible refine VC.mk ?_; dsimp only; done) | (with_reducible refine VC.mk ?_; omega) | (with_reducible refine VC.mk ?_; congr 1; (try simp (disch := omega) only [w64]); omega) | with_reducible exact True.intro | with_reducible exact drawOk_i (by decide +kernel) (by decide +kernel) (by decide +kernel) | with_reducible exact VC.mk ⟨rfl, fun e => e⟩ | ((with_reducible refine VC.mk ?_); exact ⟨rfl, rfl⟩) | with_reducible exact VC.mk (Nat.le_refl _) | ((with_reducible refine VC.mk ?_); (with_reducible refine ⟨?_, ?_, ?_⟩); (assumption); (assumption); (omega)) | ((with_reducible refine VC.mk ?_); (with_reducible refine ⟨Nat.le_trans (Nat.mul_le_mul_left _ (m := 1000) ?_) ?_, ?_⟩); (decide); (omega); (omega)) | with_reducible refine splitT ?_ | with_reducible refine splitF ?_ | ((with_reducible refine splitB.mk (fun h => ?_) (fun h => ?_)) <;> (try simp only [decide_eq_true_eq, decide_eq_false_iff_not, ne_eq, Decidable.not_not, Int.not_lt, Int.not_le, Bool.not_eq_true', Bool.not_eq_false'] at h) <;> (try simp (disch := omega) only [w64] at h) <;> (try (exfalso; first | omega | exact h True.intro | (simp only [and_self, not_true_eq_false] at h; done) | (simp only [beq_self_eq_true, Bool.true_eq_false, reduceCtorEq] at h; done)))) | (with_reducible intro hz; (try exact absurd hz (Nat.succ_ne_zero _)))))) <;> (try (conv => whnf))
  all_goals (
    have h2 : (nm.length : Int) ≤ 1048576 := by split at h <;> omega
    refine ⟨?_⟩; dsimp only; omega)
end Go.Proofs.Ytlanklogihplnaa.Eng
