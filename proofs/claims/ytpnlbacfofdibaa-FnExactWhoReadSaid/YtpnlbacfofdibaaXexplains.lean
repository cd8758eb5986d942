/- explains: lemmas for the proof, no conditions of their own. -/
import Derived.Test.YtpnlbacfofdibaaXhits
import Derived.Test.YtpnlbacfofdibaaXtoFracS
import Derived.Test.YtpnlbacfofdibaaXlawReadingOf
set_option linter.unusedVariables false
set_option linter.unusedSimpArgs false
namespace Go.Proofs.Ytpnlbacfofdibaa.Eng
open Go Go.RowKit
set_option maxRecDepth 100000
def exCode (b u : Int) (V : List (Int × Int)) (L : List Int) : Int := if guB b u = true then pairC V L else 1
def exVal (b u : Int) (up : Bool) (V : List (Int × Int)) (L : List Int) : Bool := if exCode b u V L = 0 then decide (hitsZ b u up V L = L.length) else false
def s_explains0 : Spec := fun args S => match args, S with
  | [.agg [.int .i16 b, .int .i16 u, .bool up], .sl 0 s n x, .sl 1 s' n' x'], [.arr (.prod (.int .i64) (.int .i64)) l 2 wr, .arr (.int .i64) l' 1 wr'] => ⟨(s + n ≤ l.length ∧ s' + n' ≤ l'.length) ∧ gB b u ∧ pairC (seg l s n) (seg l' s' n') = 0, .bool (decide (hitsZ b u up (seg l s n) (seg l' s' n') = n')), [.arr (.prod (.int .i64) (.int .i64)) l 2 wr, .arr (.int .i64) l' 1 wr']⟩
  | _, _ => noSpec
theorem ok_l06Explains : SpecOk Try.prog 68 s_explains0 := by
  intro args S h; unfold s_explains0 at h ⊢; (split at h <;> first | exact False.elim h | skip)
  dsimp only at h ⊢
  refine funW tabOk (E := [(76, s_hits)]) ⟨ok_l06Hits, trivial⟩ [] (k := 2) (fn := Try.f68) rfl rfl rfl rfl rfl rfl ?_
  (repeat' ((try (conv => whnf)); first | (with_reducible first | refine And.intro ?_ ?_ | refine WX.of ?_ | exact VC.mk rfl | exact True.intro | exact VC.mk ⟨rfl, fun e => e⟩ | exact VC.mk ⟨fun e => e, rfl⟩ | exact VC.mk (Nat.le_refl _) | exact drawOk_i (by decide +kernel) (by decide +kernel) (by decide +kernel)) | ((with_reducible refine VC.mk ?_); first | (dsimp only; done) | omega | (congr 1; (try simp (disch := omega) only [w64]); omega) | exact ⟨rfl, rfl⟩ | (refine ⟨?_, ?_, ?_⟩; assumption; assumption; omega) | (refine ⟨Nat.le_trans (Nat.mul_le_mul_left _ (m := 1000) ?_) ?_, ?_⟩; decide; omega; omega)) | with_reducible refine splitT ?_ | with_reducible refine splitF ?_ | ((with_reducible refine splitB.mk (fun h => ?_) (fun h => ?_)) <;> (try simp only [decide_eq_true_eq, decide_eq_false_iff_not, ne_eq, Decidable.not_not, Int.not_lt, Int.not_le, Bool.not_eq_true', Bool.not_eq_false'] at h) <;> (try simp (disch := omega) only [w64] at h) <;> (try (exfalso; first | omega | exact h True.intro | (simp only [and_self, not_true_eq_false] at h; done) | (simp only [beq_self_eq_true, Bool.true_eq_false, reduceCtorEq] at h; done)))) | (with_reducible intro hz; (try exact absurd hz (Nat.succ_ne_zero _)))))
  all_goals (refine ⟨congrArg SV.bool ?_⟩; rw [decide_eq_decide]; simp; omega)
def s_explains : Spec := fun args S => match args, S with
  | [.agg [.int .i16 b, .int .i16 u, .bool up], .sl 0 s n x, .sl 1 s' n' x'], [.arr (.prod (.int .i64) (.int .i64)) l 2 wr, .arr (.int .i64) l' 1 wr'] => ⟨(s + n ≤ l.length ∧ n ≤ 1048576) ∧ (s' + n' ≤ l'.length ∧ n' ≤ 1048576) ∧ (-32768 ≤ b ∧ b < 32768) ∧ -32768 ≤ u ∧ u < 32768, .tup [.bool (exVal b u up (seg l s n) (seg l' s' n')), .int .i64 (exCode b u (seg l s n) (seg l' s' n'))], [.arr (.prod (.int .i64) (.int .i64)) l 2 wr, .arr (.int .i64) l' 1 wr']⟩
  | _, _ => noSpec
def s_toGuess : Spec := fun args S => match args, S with
  | [.agg [.int .i16 b, .int .i16 u, .bool up]], [] => ⟨True, .agg [.int .i16 b, .int .i16 u, .bool up], []⟩
  | _, _ => noSpec
end Go.Proofs.Ytpnlbacfofdibaa.Eng
