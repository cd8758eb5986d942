/- lawUnitSeen: lemmas for the proof, no conditions of their own. -/
import Derived.Test.YtlanklogihplnaaXunit
import Derived.Test.YtlanklogihplnaaXeqInt64S
import Derived.Test.YtlanklogihplnaaXtoInt64S
set_option linter.unusedVariables false
set_option linter.unusedSimpArgs false
namespace Go.Proofs.Ytlanklogihplnaa.Eng
open Go Go.RowKit
set_option maxRecDepth 100000
theorem law_unitSeen {c : Bool} {n : Nat} {l : List Int} (hn : n ≤ l.length) (hc : c = true → l = []) (ho : ∀ y ∈ l, ET.Ok (.int .i64) y) : RunsS Try.prog 4 [.opt c 0 n 0] [.arrO (.int .i64) l 1] (.bool true) [.arrO (.int .i64) l 1] := by
  have hL : (seg l 0 n).length = n := seg_len (by omega)
  refine funW tabOk (E := [(12, s_toInt64S), (16, s_unit), (17, s_unit), (15, s_eqInt64S)]) ⟨ok_toInt64S, ok_UnitSeenS, ok_UnitSeenI, ok_eqInt64S, trivial⟩ [] (k := 1) (fn := Try.f4) rfl rfl rfl rfl rfl rfl ?_
  (repeat' (first | with_reducible refine And.intro ?_ ?_ | with_reducible exact VC.mk rfl | (with_reducible refine VC.mk ?_; dsimp only; done) | (with_reducible refine VC.mk ?_; omega) | (with_reducible refine VC.mk ?_; congr 1; (try simp (disch := omega) only [w64]); omega) | with_reducible exact True.intro | with_reducible exact drawOk_i (by decide +kernel) (by decide +kernel) (by decide +kernel) | exact VC.mk ⟨rfl, fun e => e⟩ | exact ⟨⟨hn, hc, by omega⟩⟩ | ((conv => whnf); first | with_reducible refine And.intro ?_ ?_ | with_reducible exact VC.mk rfl | (with_reducible refine VC.mk ?_; dsimp only; done) | (with_reducible refine VC.mk ?_; omega) | (with_reducible refine VC.mk ?_; congr 1; (try simp (disch := omega) only [w64]); omega) | with_reducible exact True.intro | with_reducible exact drawOk_i (by decide +kernel) (by decide +kernel) (by decide +kernel) | exact VC.mk ⟨rfl, fun e => e⟩ | exact ⟨⟨hn, hc, by omega⟩⟩ | with_reducible refine splitT ?_ | with_reducible refine splitF ?_ | ((with_reducible refine splitB.mk (fun h => ?_) (fun h => ?_)) <;> (try simp only [decide_eq_true_eq, decide_eq_false_iff_not, ne_eq, Decidable.not_not, Int.not_lt, Int.not_le, Bool.not_eq_true', Bool.not_eq_false'] at h) <;> (try (exfalso; first | omega | exact h True.intro))) | with_reducible intro _))) <;> (try (conv => whnf))
end Go.Proofs.Ytlanklogihplnaa.Eng
