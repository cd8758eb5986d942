/- opens: lemmas for the proof, no conditions of their own. -/
import Derived.Test.YtbmejhabgoimeaaXlenf
set_option linter.unusedVariables false
set_option linter.unusedSimpArgs false
namespace Go.Proofs.Ytbmejhabgoimeaa.Eng
open Go Go.RowKit
set_option maxRecDepth 100000
/-- The greatest size of an error, of the first i. -/
def wrN (E : List FrT) : Nat → FrT
  | 0 => (0, 1)
  | i + 1 => moF (wrN E i).1 (wrN E i).2 (((E[i]?).getD (0, 0)).1.natAbs : Int) ((E[i]?).getD (0, 0)).2
theorem wrN_sm {E : List FrT} (h : ∀ (j : Nat) (a : FrT), E[j]? = some a → smF a.1 a.2) : ∀ {i : Nat}, i ≤ E.length → smF (wrN E i).1 (wrN E i).2
  | 0, _ => smF_1 (n := 0) (by omega)
  | i + 1, hi => by
    obtain ⟨a, ha⟩ := get_some (l := E) (i := i) (by omega)
    rw [wrN, ha]
    exact smF_mo (wrN_sm h (by omega)) (smF_abs (h _ _ ha))
def s_worst : Spec := fun args S => match args, S with
  | [.agg [.int .i64 up, .int .i64 uq, .sl 0 s n x]], [.arr (.prod (.int .i64) (.int .i64)) l 2 wr] => ⟨(s + n ≤ l.length ∧ n ≤ 1048576) ∧ ∀ (j : Nat) (a : FrT), (seg l s n)[j]? = some a → smF a.1 a.2, .agg [.int .i64 (wrN (seg l s n) n).1, .int .i64 (wrN (seg l s n) n).2], [.arr (.prod (.int .i64) (.int .i64)) l 2 wr]⟩
  | _, _ => noSpec
theorem ok_worst : SpecOk Try.prog 97 s_worst := by
  intro args S h; unfold s_worst at h ⊢; (split at h <;> first | exact False.elim h | skip)
  dsimp only at h ⊢
  rename_i up uq s n x l wr
  obtain ⟨⟨h1, h2⟩, hE⟩ := h
  have hL := seg_len h1
  refine funW tabOk (E := [(61, s_zero), (57, s_size), (115, s_more)]) ⟨ok_zero, ok_size, ok_greater, trivial⟩ [(5, [(0, 1)])] (k := 1) (fn := Try.f97) rfl rfl rfl rfl rfl rfl ?_
  (repeat' ((try (conv => whnf)); first | (with_reducible first | refine And.intro ?_ ?_ | refine WX.of ?_ | exact VC.mk rfl | exact True.intro | exact VC.mk ⟨rfl, fun e => e⟩ | exact VC.mk ⟨fun e => e, rfl⟩ | exact VC.mk (Nat.le_refl _) | exact drawOk_i (by decide +kernel) (by decide +kernel) (by decide +kernel)) | ((with_reducible refine VC.mk ?_); first | (dsimp only; done) | omega | (congr 1; (try simp (disch := omega) only [w64]); omega) | exact ⟨rfl, rfl⟩ | (refine ⟨?_, ?_, ?_⟩; assumption; assumption; omega) | (refine ⟨Nat.le_trans (Nat.mul_le_mul_left _ (m := 1000) ?_) ?_, ?_⟩; decide; omega; omega)) | with_reducible refine splitT ?_ | with_reducible refine splitF ?_ | ((with_reducible refine splitB.mk (fun h => ?_) (fun h => ?_)) <;> (try simp only [decide_eq_true_eq, decide_eq_false_iff_not, ne_eq, Decidable.not_not, Int.not_lt, Int.not_le, Bool.not_eq_true', Bool.not_eq_false'] at h) <;> (try simp (disch := omega) only [w64] at h) <;> (try (exfalso; first | omega | exact h True.intro | (simp only [and_self, not_true_eq_false] at h; done) | (simp only [beq_self_eq_true, Bool.true_eq_false, reduceCtorEq] at h; done)))) | (with_reducible intro hz; (try exact absurd hz (Nat.succ_ne_zero _)))))
  refine loopW tabOk (E := [(61, s_zero), (57, s_size), (115, s_more)]) ⟨ok_zero, ok_size, ok_greater, trivial⟩ [(5, [(0, 1)])] (σ := Nat) (fun i => [(2, .ptr 2 0 0), (3, .ptr 3 0 0), (8, .sl 0 s n x), (9, .int .i64 n), (10, .int .i64 i)]) (fun i => [.arr (.prod (.int .i64) (.int .i64)) l 2 wr, .gone, .arr (.prod (.int .i64) (.int .i64)) [(0, 0)] 0 true, .arr (.prod (.int .i64) (.int .i64)) [wrN (seg l s n) i] 0 true]) (fun i => n - i) (fun i => i ≤ n) 0 (Nat.zero_le _) ?_ ?_
  · (repeat' ((try (conv => whnf)); first | (with_reducible first | refine And.intro ?_ ?_ | refine WX.of ?_ | exact VC.mk rfl | exact True.intro | exact VC.mk ⟨rfl, fun e => e⟩ | exact VC.mk ⟨fun e => e, rfl⟩ | exact VC.mk (Nat.le_refl _) | exact drawOk_i (by decide +kernel) (by decide +kernel) (by decide +kernel)) | ((with_reducible refine VC.mk ?_); first | (dsimp only; done) | omega | (congr 1; (try simp (disch := omega) only [w64]); omega) | exact ⟨rfl, rfl⟩ | (refine ⟨?_, ?_, ?_⟩; assumption; assumption; omega) | (refine ⟨Nat.le_trans (Nat.mul_le_mul_left _ (m := 1000) ?_) ?_, ?_⟩; decide; omega; omega)) | with_reducible refine splitT ?_ | with_reducible refine splitF ?_ | ((with_reducible refine splitB.mk (fun h => ?_) (fun h => ?_)) <;> (try simp only [decide_eq_true_eq, decide_eq_false_iff_not, ne_eq, Decidable.not_not, Int.not_lt, Int.not_le, Bool.not_eq_true', Bool.not_eq_false'] at h) <;> (try simp (disch := omega) only [w64] at h) <;> (try (exfalso; first | omega | exact h True.intro | (simp only [and_self, not_true_eq_false] at h; done) | (simp only [beq_self_eq_true, Bool.true_eq_false, reduceCtorEq] at h; done)))) | (with_reducible intro hz; (try exact absurd hz (Nat.succ_ne_zero _)))))
  · intro i hi
    have hw := wrN_sm hE (i := i) (by omega)
    by_cases hlt : i < n
    · obtain ⟨⟨p, q⟩, ha⟩ := get_some (l := seg l s n) (i := i) (by omega)
      have hs := hE _ _ ha
      have hst : wrN (seg l s n) (i + 1) = moF (wrN (seg l s n) i).1 (wrN (seg l s n) i).2 (p.natAbs : Int) q := by rw [wrN, ha]; rfl
      (repeat' ((try (conv => whnf)); first | (with_reducible first | refine And.intro ?_ ?_ | refine WX.of ?_ | exact VC.mk rfl | exact True.intro | exact VC.mk ⟨rfl, fun e => e⟩ | exact VC.mk ⟨fun e => e, rfl⟩ | exact VC.mk (Nat.le_refl _) | exact drawOk_i (by decide +kernel) (by decide +kernel) (by decide +kernel)) | ((with_reducible refine VC.mk ?_); first | (dsimp only; done) | omega | (congr 1; (try simp (disch := omega) only [w64]); omega) | exact ⟨rfl, rfl⟩ | (refine ⟨?_, ?_, ?_⟩; assumption; assumption; omega) | (refine ⟨Nat.le_trans (Nat.mul_le_mul_left _ (m := 1000) ?_) ?_, ?_⟩; decide; omega; omega)) | with_reducible refine atL_i ha ?_ | ((with_reducible refine VC.mk ?_); exact hs) | ((with_reducible refine VC.mk ?_); exact ⟨hw, smF_abs hs⟩) | with_reducible refine splitT ?_ | with_reducible refine splitF ?_ | ((with_reducible refine splitB.mk (fun h => ?_) (fun h => ?_)) <;> (try simp only [decide_eq_true_eq, decide_eq_false_iff_not, ne_eq, Decidable.not_not, Int.not_lt, Int.not_le, Bool.not_eq_true', Bool.not_eq_false'] at h) <;> (try simp (disch := omega) only [w64] at h) <;> (try (exfalso; first | omega | exact h True.intro | (simp only [and_self, not_true_eq_false] at h; done) | (simp only [beq_self_eq_true, Bool.true_eq_false, reduceCtorEq] at h; done)))) | (with_reducible intro hz; (try exact absurd hz (Nat.succ_ne_zero _)))))
      refine ⟨i + 1, by omega, hlt, ?_⟩
      (repeat' ((try (conv => whnf)); first | (with_reducible first | refine And.intro ?_ ?_ | refine WX.of ?_ | exact VC.mk rfl | exact True.intro | exact VC.mk ⟨rfl, fun e => e⟩ | exact VC.mk ⟨fun e => e, rfl⟩ | exact VC.mk (Nat.le_refl _) | exact drawOk_i (by decide +kernel) (by decide +kernel) (by decide +kernel)) | ((with_reducible refine VC.mk ?_); first | (dsimp only; done) | omega | (congr 1; (try simp (disch := omega) only [w64]); omega) | exact ⟨rfl, rfl⟩ | (refine ⟨?_, ?_, ?_⟩; assumption; assumption; omega) | (refine ⟨Nat.le_trans (Nat.mul_le_mul_left _ (m := 1000) ?_) ?_, ?_⟩; decide; omega; omega)) | with_reducible refine splitT ?_ | with_reducible refine splitF ?_ | ((with_reducible refine splitB.mk (fun h => ?_) (fun h => ?_)) <;> (try simp only [decide_eq_true_eq, decide_eq_false_iff_not, ne_eq, Decidable.not_not, Int.not_lt, Int.not_le, Bool.not_eq_true', Bool.not_eq_false'] at h) <;> (try simp (disch := omega) only [w64] at h) <;> (try (exfalso; first | omega | exact h True.intro | (simp only [and_self, not_true_eq_false] at h; done) | (simp only [beq_self_eq_true, Bool.true_eq_false, reduceCtorEq] at h; done)))) | (with_reducible intro hz; (try exact absurd hz (Nat.succ_ne_zero _)))))
      all_goals exact ⟨by rw [hst]; rfl⟩
    · obtain rfl : i = n := by omega
      (repeat' ((try (conv => whnf)); first | (with_reducible first | refine And.intro ?_ ?_ | refine WX.of ?_ | exact VC.mk rfl | exact True.intro | exact VC.mk ⟨rfl, fun e => e⟩ | exact VC.mk ⟨fun e => e, rfl⟩ | exact VC.mk (Nat.le_refl _) | exact drawOk_i (by decide +kernel) (by decide +kernel) (by decide +kernel)) | ((with_reducible refine VC.mk ?_); first | (dsimp only; done) | omega | (congr 1; (try simp (disch := omega) only [w64]); omega) | exact ⟨rfl, rfl⟩ | (refine ⟨?_, ?_, ?_⟩; assumption; assumption; omega) | (refine ⟨Nat.le_trans (Nat.mul_le_mul_left _ (m := 1000) ?_) ?_, ?_⟩; decide; omega; omega)) | with_reducible refine splitT ?_ | with_reducible refine splitF ?_ | ((with_reducible refine splitB.mk (fun h => ?_) (fun h => ?_)) <;> (try simp only [decide_eq_true_eq, decide_eq_false_iff_not, ne_eq, Decidable.not_not, Int.not_lt, Int.not_le, Bool.not_eq_true', Bool.not_eq_false'] at h) <;> (try simp (disch := omega) only [w64] at h) <;> (try (exfalso; first | omega | exact h True.intro | (simp only [and_self, not_true_eq_false] at h; done) | (simp only [beq_self_eq_true, Bool.true_eq_false, reduceCtorEq] at h; done)))) | (with_reducible intro hz; (try exact absurd hz (Nat.succ_ne_zero _)))))
def s_l02Worst : Spec := fun args S => match args, S with
  | [.ptr 0 0 0], [.box [.int .i64 up, .int .i64 uq, .sl 1 s n x, .int .i64 vp, .bool vb, .int .i64 gp, .int .i64 gq, .sl 2 t m y] true false, .arr (.prod (.int .i64) (.int .i64)) l 2 wr, .arr (.prod .str (.prod (.prod (.int .i64) (.int .i64)) (.prod (.int .i64) (.int .i64)))) T 5 wT] => ⟨(s + n ≤ l.length ∧ n ≤ 1048576) ∧ ∀ (j : Nat) (a : FrT), (seg l s n)[j]? = some a → smF a.1 a.2, .agg [.int .i64 (wrN (seg l s n) n).1, .int .i64 (wrN (seg l s n) n).2], [.box [.int .i64 up, .int .i64 uq, .sl 1 s n x, .int .i64 vp, .bool vb, .int .i64 gp, .int .i64 gq, .sl 2 t m y] true false, .arr (.prod (.int .i64) (.int .i64)) l 2 wr, .arr (.prod .str (.prod (.prod (.int .i64) (.int .i64)) (.prod (.int .i64) (.int .i64)))) T 5 wT]⟩
  | _, _ => noSpec
def s_l02Size : Spec := fun args S => match args, S with
  | [.agg [.int .i64 p, .int .i64 q]], [] => ⟨smF p q, .agg [.int .i64 (p.natAbs : Int), .int .i64 q], []⟩
  | _, _ => noSpec
theorem ok_l02Size : SpecOk Try.prog 121 s_l02Size := by
  intro args S h; unfold s_l02Size at h ⊢; (split at h <;> first | exact False.elim h | skip)
  dsimp only at h ⊢
  rename_i p q
  have hs := h
  unfold smF at h
  refine funW tabOk (E := [(83, s_neg)]) ⟨ok_l01Neg, trivial⟩ [] (k := 0) (fn := Try.f121) rfl rfl rfl rfl rfl rfl ?_
  (repeat' ((try (conv => whnf)); first | (with_reducible first | refine And.intro ?_ ?_ | refine WX.of ?_ | exact VC.mk rfl | exact True.intro | exact VC.mk ⟨rfl, fun e => e⟩ | exact VC.mk ⟨fun e => e, rfl⟩ | exact VC.mk (Nat.le_refl _) | exact drawOk_i (by decide +kernel) (by decide +kernel) (by decide +kernel)) | ((with_reducible refine VC.mk ?_); first | (dsimp only; done) | omega | (congr 1; (try simp (disch := omega) only [w64]); omega) | exact ⟨rfl, rfl⟩ | (refine ⟨?_, ?_, ?_⟩; assumption; assumption; omega) | (refine ⟨Nat.le_trans (Nat.mul_le_mul_left _ (m := 1000) ?_) ?_, ?_⟩; decide; omega; omega)) | ((with_reducible refine VC.mk ?_); exact hs) | with_reducible refine splitT ?_ | with_reducible refine splitF ?_ | ((with_reducible refine splitB.mk (fun h => ?_) (fun h => ?_)) <;> (try simp only [decide_eq_true_eq, decide_eq_false_iff_not, ne_eq, Decidable.not_not, Int.not_lt, Int.not_le, Bool.not_eq_true', Bool.not_eq_false'] at h) <;> (try simp (disch := omega) only [w64] at h) <;> (try (exfalso; first | omega | exact h True.intro | (simp only [and_self, not_true_eq_false] at h; done) | (simp only [beq_self_eq_true, Bool.true_eq_false, reduceCtorEq] at h; done)))) | (with_reducible intro hz; (try exact absurd hz (Nat.succ_ne_zero _)))))
  · exact ⟨by rw [show -p = (p.natAbs : Int) by omega]⟩
  · exact ⟨by rw [show (p.natAbs : Int) = p by omega]⟩
theorem ok_l02Worst : SpecOk Try.prog 116 s_l02Worst := by
  intro args S h; unfold s_l02Worst at h ⊢; (split at h <;> first | exact False.elim h | skip)
  dsimp only at h ⊢
  rename_i up uq s n x vp vb gp gq t m y l wr T wT
  obtain ⟨⟨h1, h2⟩, hE⟩ := h
  have hL := seg_len h1
  refine funW tabOk (E := [(46, s_num), (121, s_l02Size), (120, s_more)]) ⟨ok_l01Whole, ok_l02Size, ok_l01More, trivial⟩ [(5, [(0, 1)])] (k := 3) (fn := Try.f116) rfl rfl rfl rfl rfl rfl ?_
  (repeat' ((try (conv => whnf)); first | (with_reducible first | refine And.intro ?_ ?_ | refine WX.of ?_ | exact VC.mk rfl | exact True.intro | exact VC.mk ⟨rfl, fun e => e⟩ | exact VC.mk ⟨fun e => e, rfl⟩ | exact VC.mk (Nat.le_refl _) | exact drawOk_i (by decide +kernel) (by decide +kernel) (by decide +kernel)) | ((with_reducible refine VC.mk ?_); first | (dsimp only; done) | omega | (congr 1; (try simp (disch := omega) only [w64]); omega) | exact ⟨rfl, rfl⟩ | (refine ⟨?_, ?_, ?_⟩; assumption; assumption; omega) | (refine ⟨Nat.le_trans (Nat.mul_le_mul_left _ (m := 1000) ?_) ?_, ?_⟩; decide; omega; omega)) | with_reducible refine splitT ?_ | with_reducible refine splitF ?_ | ((with_reducible refine splitB.mk (fun h => ?_) (fun h => ?_)) <;> (try simp only [decide_eq_true_eq, decide_eq_false_iff_not, ne_eq, Decidable.not_not, Int.not_lt, Int.not_le, Bool.not_eq_true', Bool.not_eq_false'] at h) <;> (try simp (disch := omega) only [w64] at h) <;> (try (exfalso; first | omega | exact h True.intro | (simp only [and_self, not_true_eq_false] at h; done) | (simp only [beq_self_eq_true, Bool.true_eq_false, reduceCtorEq] at h; done)))) | (with_reducible intro hz; (try exact absurd hz (Nat.succ_ne_zero _)))))
  refine loopW tabOk (E := [(46, s_num), (121, s_l02Size), (120, s_more)]) ⟨ok_l01Whole, ok_l02Size, ok_l01More, trivial⟩ [(5, [(0, 1)])] (σ := Nat) (fun i => [(0, .ptr 0 0 0), (2, .ptr 3 0 0), (3, .ptr 4 0 0), (4, .int .i64 i)]) (fun i => [.box [.int .i64 up, .int .i64 uq, .sl 1 s n x, .int .i64 vp, .bool vb, .int .i64 gp, .int .i64 gq, .sl 2 t m y] true false, .arr (.prod (.int .i64) (.int .i64)) l 2 wr, .arr (.prod .str (.prod (.prod (.int .i64) (.int .i64)) (.prod (.int .i64) (.int .i64)))) T 5 wT] ++ [.arr (.prod (.int .i64) (.int .i64)) [(0, 0)] 0 true, .arr (.prod (.int .i64) (.int .i64)) [wrN (seg l s n) i] 0 true]) (fun i => n - i) (fun i => i ≤ n) 0 (Nat.zero_le _) ?_ ?_
  · (repeat' ((try (conv => whnf)); first | (with_reducible first | refine And.intro ?_ ?_ | refine WX.of ?_ | exact VC.mk rfl | exact True.intro | exact VC.mk ⟨rfl, fun e => e⟩ | exact VC.mk ⟨fun e => e, rfl⟩ | exact VC.mk (Nat.le_refl _) | exact drawOk_i (by decide +kernel) (by decide +kernel) (by decide +kernel)) | ((with_reducible refine VC.mk ?_); first | (dsimp only; done) | omega | (congr 1; (try simp (disch := omega) only [w64]); omega) | exact ⟨rfl, rfl⟩ | (refine ⟨?_, ?_, ?_⟩; assumption; assumption; omega) | (refine ⟨Nat.le_trans (Nat.mul_le_mul_left _ (m := 1000) ?_) ?_, ?_⟩; decide; omega; omega)) | with_reducible refine splitT ?_ | with_reducible refine splitF ?_ | ((with_reducible refine splitB.mk (fun h => ?_) (fun h => ?_)) <;> (try simp only [decide_eq_true_eq, decide_eq_false_iff_not, ne_eq, Decidable.not_not, Int.not_lt, Int.not_le, Bool.not_eq_true', Bool.not_eq_false'] at h) <;> (try simp (disch := omega) only [w64] at h) <;> (try (exfalso; first | omega | exact h True.intro | (simp only [and_self, not_true_eq_false] at h; done) | (simp only [beq_self_eq_true, Bool.true_eq_false, reduceCtorEq] at h; done)))) | (with_reducible intro hz; (try exact absurd hz (Nat.succ_ne_zero _)))))
  · intro i hi
    have hw := wrN_sm hE (i := i) (by omega)
    by_cases hlt : i < n
    · obtain ⟨⟨p, q⟩, ha⟩ := get_some (l := seg l s n) (i := i) (by omega)
      have hs := hE _ _ ha
      have hst : wrN (seg l s n) (i + 1) = moF (wrN (seg l s n) i).1 (wrN (seg l s n) i).2 (p.natAbs : Int) q := by rw [wrN, ha]; rfl
      (repeat' ((try (conv => whnf)); first | (with_reducible first | refine And.intro ?_ ?_ | refine WX.of ?_ | exact VC.mk rfl | exact True.intro | exact VC.mk ⟨rfl, fun e => e⟩ | exact VC.mk ⟨fun e => e, rfl⟩ | exact VC.mk (Nat.le_refl _) | exact drawOk_i (by decide +kernel) (by decide +kernel) (by decide +kernel)) | ((with_reducible refine VC.mk ?_); first | (dsimp only; done) | omega | (congr 1; (try simp (disch := omega) only [w64]); omega) | exact ⟨rfl, rfl⟩ | (refine ⟨?_, ?_, ?_⟩; assumption; assumption; omega) | (refine ⟨Nat.le_trans (Nat.mul_le_mul_left _ (m := 1000) ?_) ?_, ?_⟩; decide; omega; omega)) | with_reducible refine atL_i ha ?_ | ((with_reducible refine VC.mk ?_); exact hs) | ((with_reducible refine VC.mk ?_); exact ⟨hw, smF_abs hs⟩) | with_reducible refine splitT ?_ | with_reducible refine splitF ?_ | ((with_reducible refine splitB.mk (fun h => ?_) (fun h => ?_)) <;> (try simp only [decide_eq_true_eq, decide_eq_false_iff_not, ne_eq, Decidable.not_not, Int.not_lt, Int.not_le, Bool.not_eq_true', Bool.not_eq_false'] at h) <;> (try simp (disch := omega) only [w64] at h) <;> (try (exfalso; first | omega | exact h True.intro | (simp only [and_self, not_true_eq_false] at h; done) | (simp only [beq_self_eq_true, Bool.true_eq_false, reduceCtorEq] at h; done)))) | (with_reducible intro hz; (try exact absurd hz (Nat.succ_ne_zero _)))))
      refine ⟨i + 1, by omega, hlt, ?_⟩
      (repeat' ((try (conv => whnf)); first | (with_reducible first | refine And.intro ?_ ?_ | refine WX.of ?_ | exact VC.mk rfl | exact True.intro | exact VC.mk ⟨rfl, fun e => e⟩ | exact VC.mk ⟨fun e => e, rfl⟩ | exact VC.mk (Nat.le_refl _) | exact drawOk_i (by decide +kernel) (by decide +kernel) (by decide +kernel)) | ((with_reducible refine VC.mk ?_); first | (dsimp only; done) | omega | (congr 1; (try simp (disch := omega) only [w64]); omega) | exact ⟨rfl, rfl⟩ | (refine ⟨?_, ?_, ?_⟩; assumption; assumption; omega) | (refine ⟨Nat.le_trans (Nat.mul_le_mul_left _ (m := 1000) ?_) ?_, ?_⟩; decide; omega; omega)) | with_reducible refine splitT ?_ | with_reducible refine splitF ?_ | ((with_reducible refine splitB.mk (fun h => ?_) (fun h => ?_)) <;> (try simp only [decide_eq_true_eq, decide_eq_false_iff_not, ne_eq, Decidable.not_not, Int.not_lt, Int.not_le, Bool.not_eq_true', Bool.not_eq_false'] at h) <;> (try simp (disch := omega) only [w64] at h) <;> (try (exfalso; first | omega | exact h True.intro | (simp only [and_self, not_true_eq_false] at h; done) | (simp only [beq_self_eq_true, Bool.true_eq_false, reduceCtorEq] at h; done)))) | (with_reducible intro hz; (try exact absurd hz (Nat.succ_ne_zero _)))))
      all_goals exact ⟨by rw [hst]; rfl⟩
    · obtain rfl : i = n := by omega
      (repeat' ((try (conv => whnf)); first | (with_reducible first | refine And.intro ?_ ?_ | refine WX.of ?_ | exact VC.mk rfl | exact True.intro | exact VC.mk ⟨rfl, fun e => e⟩ | exact VC.mk ⟨fun e => e, rfl⟩ | exact VC.mk (Nat.le_refl _) | exact drawOk_i (by decide +kernel) (by decide +kernel) (by decide +kernel)) | ((with_reducible refine VC.mk ?_); first | (dsimp only; done) | omega | (congr 1; (try simp (disch := omega) only [w64]); omega) | exact ⟨rfl, rfl⟩ | (refine ⟨?_, ?_, ?_⟩; assumption; assumption; omega) | (refine ⟨Nat.le_trans (Nat.mul_le_mul_left _ (m := 1000) ?_) ?_, ?_⟩; decide; omega; omega)) | with_reducible refine splitT ?_ | with_reducible refine splitF ?_ | ((with_reducible refine splitB.mk (fun h => ?_) (fun h => ?_)) <;> (try simp only [decide_eq_true_eq, decide_eq_false_iff_not, ne_eq, Decidable.not_not, Int.not_lt, Int.not_le, Bool.not_eq_true', Bool.not_eq_false'] at h) <;> (try simp (disch := omega) only [w64] at h) <;> (try (exfalso; first | omega | exact h True.intro | (simp only [and_self, not_true_eq_false] at h; done) | (simp only [beq_self_eq_true, Bool.true_eq_false, reduceCtorEq] at h; done)))) | (with_reducible intro hz; (try exact absurd hz (Nat.succ_ne_zero _)))))
/-- The doubt of a reading. -/
def dbO (u : FrT) (vp : Int) (w : FrT) : Option FrT := (dvO u (2 * vp, 1)).bind fun a => (muO (2, 1) w).bind fun b => adO a b
def dbV (u : FrT) (vp : Int) (w : FrT) : FrT := tv (adO (tv (dvO u (2 * vp, 1))) (tv (muO (2, 1) w)))
theorem db_e (u : FrT) (vp : Int) (w : FrT) : (!(dvO u (2 * vp, 1)).isSome || !(muO (2, 1) w).isSome || !(adO (tv (dvO u (2 * vp, 1))) (tv (muO (2, 1) w))).isSome) = !(dbO u vp w).isSome ∧ ∀ v, dbO u vp w = some v → dbV u vp w = v := by
  unfold dbV dbO
  cases h1 : dvO u (2 * vp, 1) with
  | none => simp
  | some a =>
    simp only [Option.bind_some]
    cases h2 : muO (2, 1) w with
    | none => simp
    | some b =>
      simp only [Option.bind_some, tv, Option.getD_some, Option.isSome_some, Bool.not_true, Bool.false_or, true_and]
      intro v h4; rw [h4]; rfl
def s_doubt : Spec := fun args S => match args, S with
  | [.ptr b 0 0, .agg [.int .i64 up, .int .i64 uq, .sl 1 s n x], .agg [.int .i64 vp, .bool vb]], [.arr .bool [bad] 0 true, .arr (.prod (.int .i64) (.int .i64)) l 2 wr] => ⟨b = 0 ∧ ((s + n ≤ l.length ∧ n ≤ 1048576) ∧ ∀ (j : Nat) (a : FrT), (seg l s n)[j]? = some a → smF a.1 a.2) ∧ smF up uq ∧ 2 ≤ vp ∧ vp ≤ 40, .agg [.int .i64 (dbV (up, uq) vp (wrN (seg l s n) n)).1, .int .i64 (dbV (up, uq) vp (wrN (seg l s n) n)).2], [.arr .bool [bad || !(dbO (up, uq) vp (wrN (seg l s n) n)).isSome] 0 true, .arr (.prod (.int .i64) (.int .i64)) l 2 wr]⟩
  | _, _ => noSpec
theorem ok_doubt : SpecOk Try.prog 66 s_doubt := by
  intro args S h; unfold s_doubt at h ⊢; (split at h <;> first | exact False.elim h | skip)
  dsimp only at h ⊢
  rename_i b up uq s n x vp vb bad l wr
  obtain ⟨rfl, hE, hu, hv⟩ := h
  have hL := seg_len hE.1.1
  have hw := wrN_sm hE.2 (i := n) (by omega)
  have hd := smF_dv (up, uq) (2 * vp, 1)
  have hm := smF_mu (2, 1) (wrN (seg l s n) n)
  have hdb := (db_e (up, uq) vp (wrN (seg l s n) n)).1
  refine funW tabOk (E := [(26, s_num), (29, s_divO), (97, s_worst), (54, s_mulO), (53, s_addO)]) ⟨ok_num, ok_divO, ok_worst, ok_mulO, ok_addO, trivial⟩ [(1, [(3, 1), (11, 0), (11, 1), (11, 2)])] (k := 2) (fn := Try.f66) rfl rfl rfl rfl rfl rfl ?_
  (repeat' ((try (conv => whnf)); first | (with_reducible first | refine And.intro ?_ ?_ | refine WX.of ?_ | exact VC.mk rfl | exact True.intro | exact VC.mk ⟨rfl, fun e => e⟩ | exact VC.mk ⟨fun e => e, rfl⟩ | exact VC.mk (Nat.le_refl _) | exact drawOk_i (by decide +kernel) (by decide +kernel) (by decide +kernel)) | ((with_reducible refine VC.mk ?_); first | (dsimp only; done) | omega | (congr 1; (try simp (disch := omega) only [w64]); omega) | exact ⟨rfl, rfl⟩ | (refine ⟨?_, ?_, ?_⟩; assumption; assumption; omega) | (refine ⟨Nat.le_trans (Nat.mul_le_mul_left _ (m := 1000) ?_) ?_, ?_⟩; decide; omega; omega)) | ((with_reducible refine VC.mk ?_); exact hE) | ((with_reducible refine VC.mk ?_); exact ⟨rfl, hu, (by rw [w64 (by omega)]; exact smF_1 (by omega))⟩) | ((with_reducible refine VC.mk ?_); exact ⟨rfl, smF_1 (by omega), hw⟩) | ((with_reducible refine VC.mk ?_); exact ⟨rfl, (by rw [w64 (by omega)]; exact hd), hm⟩) | with_reducible refine splitT ?_ | with_reducible refine splitF ?_ | ((with_reducible refine splitB.mk (fun h => ?_) (fun h => ?_)) <;> (try simp only [decide_eq_true_eq, decide_eq_false_iff_not, ne_eq, Decidable.not_not, Int.not_lt, Int.not_le, Bool.not_eq_true', Bool.not_eq_false'] at h) <;> (try simp (disch := omega) only [w64] at h) <;> (try (exfalso; first | omega | exact h True.intro | (simp only [and_self, not_true_eq_false] at h; done) | (simp only [beq_self_eq_true, Bool.true_eq_false, reduceCtorEq] at h; done)))) | (with_reducible intro hz; (try exact absurd hz (Nat.succ_ne_zero _)))))
  · refine ⟨?_⟩
    dsimp only
    rw [w64 (by omega)]
    rfl
  · refine ⟨?_⟩
    dsimp only
    rw [w64 (by omega)]
    simp only [pr_eta]
    rw [← hdb]
    (try simp only [Bool.or_assoc])
theorem dv_f {a b v : FrT} (h : dvO a b = some v) : fOk v.1 v.2 = true := by
  unfold dvO at h
  split at h
  · simp at h
  · exact rO_f h
theorem db_1 {u : FrT} {vp : Int} {w : FrT} (h : ¬ oC (dvO u (2 * vp, 1)) = 0) : dbO u vp w = none := by unfold dbO; rw [oC_n h]; rfl
theorem db_2 {u : FrT} {vp : Int} {w : FrT} (h : oC (dvO u (2 * vp, 1)) = 0) (h2 : ¬ oC (muO (2, 1) w) = 0) : dbO u vp w = none := by
  obtain ⟨v, ev⟩ := oC_s h
  unfold dbO; rw [ev, oC_n h2]; rfl
theorem db_3 {u : FrT} {vp : Int} {w : FrT} (h : oC (dvO u (2 * vp, 1)) = 0) (h2 : oC (muO (2, 1) w) = 0) : dbO u vp w = adO (zv (dvO u (2 * vp, 1))) (zv (muO (2, 1) w)) := by
  obtain ⟨v, ev⟩ := oC_s h
  obtain ⟨a, ea⟩ := oC_s h2
  unfold dbO; rw [ev, ea]; rfl
def s_l02Open : Spec := fun args S => match args, S with
  | [.ptr 0 0 0, .ptr 0 0 3], [.box [.int .i64 up, .int .i64 uq, .sl 1 s n x, .int .i64 vp, .bool vb, .int .i64 gp, .int .i64 gq, .sl 2 t m y] true false, .arr (.prod (.int .i64) (.int .i64)) l 2 wr, .arr (.prod .str (.prod (.prod (.int .i64) (.int .i64)) (.prod (.int .i64) (.int .i64)))) T 5 wT] => ⟨((s + n ≤ l.length ∧ n ≤ 1048576) ∧ ∀ (j : Nat) (a : FrT), (seg l s n)[j]? = some a → smF a.1 a.2) ∧ smF up uq ∧ 2 ≤ vp ∧ vp ≤ 40, .tup [.agg [.int .i64 (zv (dbO (up, uq) vp (wrN (seg l s n) n))).1, .int .i64 (zv (dbO (up, uq) vp (wrN (seg l s n) n))).2], .int .i64 (oC (dbO (up, uq) vp (wrN (seg l s n) n)))], [.box [.int .i64 up, .int .i64 uq, .sl 1 s n x, .int .i64 vp, .bool vb, .int .i64 gp, .int .i64 gq, .sl 2 t m y] true false, .arr (.prod (.int .i64) (.int .i64)) l 2 wr, .arr (.prod .str (.prod (.prod (.int .i64) (.int .i64)) (.prod (.int .i64) (.int .i64)))) T 5 wT]⟩
  | _, _ => noSpec
theorem ok_l02Open : SpecOk Try.prog 99 s_l02Open := by
  intro args S h; unfold s_l02Open at h ⊢; (split at h <;> first | exact False.elim h | skip)
  dsimp only at h ⊢
  rename_i up uq s n x vp vb gp gq t m y l wr T wT
  obtain ⟨hE, hu, hv⟩ := h
  have hL := seg_len hE.1.1
  have hw := wrN_sm hE.2 (i := n) (by omega)
  refine funW tabOk (E := [(46, s_num), (49, s_divZ), (116, s_l02Worst), (81, s_mulZ), (82, s_addZ)]) ⟨ok_l01Whole, ok_l01DivZ, ok_l02Worst, ok_l01MulZ, ok_l01AddZ, trivial⟩ [(1, [(3, 1), (14, 0), (14, 1)])] (k := 3) (fn := Try.f99) rfl rfl rfl rfl rfl rfl ?_
  (repeat' ((try (conv => whnf)); first | (with_reducible first | refine And.intro ?_ ?_ | refine WX.of ?_ | exact VC.mk rfl | exact True.intro | exact VC.mk ⟨rfl, fun e => e⟩ | exact VC.mk ⟨fun e => e, rfl⟩ | exact VC.mk (Nat.le_refl _) | exact drawOk_i (by decide +kernel) (by decide +kernel) (by decide +kernel)) | ((with_reducible refine VC.mk ?_); first | (dsimp only; done) | omega | (congr 1; (try simp (disch := omega) only [w64]); omega) | exact ⟨rfl, rfl⟩ | (refine ⟨?_, ?_, ?_⟩; assumption; assumption; omega) | (refine ⟨Nat.le_trans (Nat.mul_le_mul_left _ (m := 1000) ?_) ?_, ?_⟩; decide; omega; omega)) | ((with_reducible refine VC.mk ?_); exact hE) | ((with_reducible refine VC.mk ?_); exact ⟨hu, (by rw [w64 (by omega)]; exact smF_1 (by omega)), (by rw [w64 (by omega)]; show 2 * vp ≠ 0; omega)⟩) | ((with_reducible refine VC.mk ?_); exact ⟨smF_1 (by omega), hw⟩) | with_reducible refine splitT ?_ | with_reducible refine splitF ?_ | ((with_reducible refine splitB.mk (fun h => ?_) (fun h => ?_)) <;> (try simp only [decide_eq_true_eq, decide_eq_false_iff_not, ne_eq, Decidable.not_not, Int.not_lt, Int.not_le, Bool.not_eq_true', Bool.not_eq_false'] at h) <;> (try simp (disch := omega) only [w64] at h) <;> (try (exfalso; first | omega | exact h True.intro | (simp only [and_self, not_true_eq_false] at h; done) | (simp only [beq_self_eq_true, Bool.true_eq_false, reduceCtorEq] at h; done)))) | (with_reducible intro hz; (try exact absurd hz (Nat.succ_ne_zero _)))))
  · refine ⟨?_⟩
    rw [w64 (by omega), db_1 h, oC_3 h]
    rfl
  · rename_i h0
    refine ⟨?_⟩
    rw [db_2 h0 h, oC_3 h]
    rfl
  · rename_i h0
    obtain ⟨v, ev⟩ := oC_s h0
    obtain ⟨a, ea⟩ := oC_s h
    refine ⟨?_⟩
    dsimp only
    rw [w64 (by omega), ev, ea]
    exact ⟨smF_ok (dv_f ev), smF_ok (rO_f ea)⟩
  · rename_i h0
    refine ⟨?_⟩
    dsimp only
    rw [w64 (by omega), db_3 h0 h]
/-- Two fractions that may fail. -/
def z2 (o : Option (FrT × FrT)) : FrT × FrT := o.getD ((0, 0), (0, 0))
def oS (o : Option (FrT × FrT)) : Int := if o.isSome = true then 0 else 3
def arO (a b : FrT) : Option (FrT × FrT) := (sbO a b).bind fun l => (adO a b).bind fun h => some (l, h)
theorem oS_n {o : Option (FrT × FrT)} (h : ¬ oS o = 0) : o = none := by cases o with | none => rfl | some v => simp [oS] at h
theorem oS_s {o : Option (FrT × FrT)} (h : oS o = 0) : ∃ v, o = some v := by cases o with | none => simp [oS] at h | some v => exact ⟨v, rfl⟩
theorem ar_f {a b : FrT} {v : FrT × FrT} (h : arO a b = some v) : fOk v.1.1 v.1.2 = true ∧ fOk v.2.1 v.2.2 = true := by
  unfold arO at h
  cases h1 : sbO a b with
  | none => rw [h1] at h; simp at h
  | some l =>
    cases h2 : adO a b with
    | none => rw [h1, h2] at h; simp at h
    | some k =>
      rw [h1, h2] at h
      simp only [Option.bind_some, Option.some.injEq] at h
      subst h
      exact ⟨rO_f h1, rO_f h2⟩
def s_both : Spec := fun args S => match args, S with
  | [.agg [.int .i64 p, .int .i64 q], .int .i64 one, .agg [.int .i64 p', .int .i64 q'], .int .i64 two], [] => ⟨True, .tup [.agg [.int .i64 (if one = 0 ∧ two = 0 then p else 0), .int .i64 (if one = 0 ∧ two = 0 then q else 0), .int .i64 (if one = 0 ∧ two = 0 then p' else 0), .int .i64 (if one = 0 ∧ two = 0 then q' else 0)], .int .i64 (if one = 0 then two else one)], []⟩
  | _, _ => noSpec
theorem ok_l01Both : SpecOk Try.prog 101 s_both := by
  intro args S h; unfold s_both at h ⊢; (split at h <;> first | exact False.elim h | skip)
  dsimp only at h ⊢
  rename_i p q one p' q' two
  refine funW tabOk (E := []) trivial [] (k := 0) (fn := Try.f101) rfl rfl rfl rfl rfl rfl ?_
  (repeat' ((try (conv => whnf)); first | (with_reducible first | refine And.intro ?_ ?_ | refine WX.of ?_ | exact VC.mk rfl | exact True.intro | exact VC.mk ⟨rfl, fun e => e⟩ | exact VC.mk ⟨fun e => e, rfl⟩ | exact VC.mk (Nat.le_refl _) | exact drawOk_i (by decide +kernel) (by decide +kernel) (by decide +kernel)) | ((with_reducible refine VC.mk ?_); first | (dsimp only; done) | omega | (congr 1; (try simp (disch := omega) only [w64]); omega) | exact ⟨rfl, rfl⟩ | (refine ⟨?_, ?_, ?_⟩; assumption; assumption; omega) | (refine ⟨Nat.le_trans (Nat.mul_le_mul_left _ (m := 1000) ?_) ?_, ?_⟩; decide; omega; omega)) | with_reducible refine splitT ?_ | with_reducible refine splitF ?_ | ((with_reducible refine splitB.mk (fun h => ?_) (fun h => ?_)) <;> (try simp only [decide_eq_true_eq, decide_eq_false_iff_not, ne_eq, Decidable.not_not, Int.not_lt, Int.not_le, Bool.not_eq_true', Bool.not_eq_false'] at h) <;> (try simp (disch := omega) only [w64] at h) <;> (try (exfalso; first | omega | exact h True.intro | (simp only [and_self, not_true_eq_false] at h; done) | (simp only [beq_self_eq_true, Bool.true_eq_false, reduceCtorEq] at h; done)))) | (with_reducible intro hz; (try exact absurd hz (Nat.succ_ne_zero _)))))
  all_goals (refine ⟨?_⟩; simp_all)
def s_around : Spec := fun args S => match args, S with
  | [.agg [.int .i64 p, .int .i64 q], .agg [.int .i64 p', .int .i64 q']], [] => ⟨smF p q ∧ smF p' q', .tup [.agg [.int .i64 (z2 (arO (p, q) (p', q'))).1.1, .int .i64 (z2 (arO (p, q) (p', q'))).1.2, .int .i64 (z2 (arO (p, q) (p', q'))).2.1, .int .i64 (z2 (arO (p, q) (p', q'))).2.2], .int .i64 (oS (arO (p, q) (p', q')))], []⟩
  | _, _ => noSpec
theorem ok_l01Around : SpecOk Try.prog 100 s_around := by
  intro args S h; unfold s_around at h ⊢; (split at h <;> first | exact False.elim h | skip)
  dsimp only at h ⊢
  rename_i p q p' q'
  have hq := h
  refine funW tabOk (E := [(45, s_subZ), (82, s_addZ), (101, s_both)]) ⟨ok_l01SubZ, ok_l01AddZ, ok_l01Both, trivial⟩ [] (k := 0) (fn := Try.f100) rfl rfl rfl rfl rfl rfl ?_
  (repeat' ((try (conv => whnf)); first | (with_reducible first | refine And.intro ?_ ?_ | refine WX.of ?_ | exact VC.mk rfl | exact True.intro | exact VC.mk ⟨rfl, fun e => e⟩ | exact VC.mk ⟨fun e => e, rfl⟩ | exact VC.mk (Nat.le_refl _) | exact drawOk_i (by decide +kernel) (by decide +kernel) (by decide +kernel)) | ((with_reducible refine VC.mk ?_); first | (dsimp only; done) | omega | (congr 1; (try simp (disch := omega) only [w64]); omega) | exact ⟨rfl, rfl⟩ | (refine ⟨?_, ?_, ?_⟩; assumption; assumption; omega) | (refine ⟨Nat.le_trans (Nat.mul_le_mul_left _ (m := 1000) ?_) ?_, ?_⟩; decide; omega; omega)) | ((with_reducible refine VC.mk ?_); exact hq) | with_reducible refine splitT ?_ | with_reducible refine splitF ?_ | ((with_reducible refine splitB.mk (fun h => ?_) (fun h => ?_)) <;> (try simp only [decide_eq_true_eq, decide_eq_false_iff_not, ne_eq, Decidable.not_not, Int.not_lt, Int.not_le, Bool.not_eq_true', Bool.not_eq_false'] at h) <;> (try simp (disch := omega) only [w64] at h) <;> (try (exfalso; first | omega | exact h True.intro | (simp only [and_self, not_true_eq_false] at h; done) | (simp only [beq_self_eq_true, Bool.true_eq_false, reduceCtorEq] at h; done)))) | (with_reducible intro hz; (try exact absurd hz (Nat.succ_ne_zero _)))))
  all_goals (refine ⟨?_⟩; cases h1 : sbO (p, q) (p', q') <;> cases h2 : adO (p, q) (p', q') <;> simp [arO, oC, oS, zv, z2, h1, h2])
def s_span : Spec := fun args S => match args, S with
  | [.ptr b 0 0, .agg [.int .i64 p, .int .i64 q, .int .i64 p', .int .i64 q']], [.arr .bool [bad] 0 true] => ⟨b = 0, .tup [.agg [.int .i64 (if bad = true then 0 else p), .int .i64 (if bad = true then 0 else q), .int .i64 (if bad = true then 0 else p'), .int .i64 (if bad = true then 0 else q')], .int .i64 (if bad = true then 3 else 0)], [.arr .bool [bad] 0 true]⟩
  | _, _ => noSpec
theorem ok_span : SpecOk Try.prog 67 s_span := by
  intro args S h; unfold s_span at h ⊢; (split at h <;> first | exact False.elim h | skip)
  dsimp only at h ⊢
  rename_i b p q p' q' bad
  obtain rfl := h
  refine funW tabOk (E := []) trivial [] (k := 1) (fn := Try.f67) rfl rfl rfl rfl rfl rfl ?_
  (repeat' ((try (conv => whnf)); first | (with_reducible first | refine And.intro ?_ ?_ | refine WX.of ?_ | exact VC.mk rfl | exact True.intro | exact VC.mk ⟨rfl, fun e => e⟩ | exact VC.mk ⟨fun e => e, rfl⟩ | exact VC.mk (Nat.le_refl _) | exact drawOk_i (by decide +kernel) (by decide +kernel) (by decide +kernel)) | ((with_reducible refine VC.mk ?_); first | (dsimp only; done) | omega | (congr 1; (try simp (disch := omega) only [w64]); omega) | exact ⟨rfl, rfl⟩ | (refine ⟨?_, ?_, ?_⟩; assumption; assumption; omega) | (refine ⟨Nat.le_trans (Nat.mul_le_mul_left _ (m := 1000) ?_) ?_, ?_⟩; decide; omega; omega)) | with_reducible refine splitT ?_ | with_reducible refine splitF ?_ | ((with_reducible refine splitB.mk (fun h => ?_) (fun h => ?_)) <;> (try simp only [decide_eq_true_eq, decide_eq_false_iff_not, ne_eq, Decidable.not_not, Int.not_lt, Int.not_le, Bool.not_eq_true', Bool.not_eq_false'] at h) <;> (try simp (disch := omega) only [w64] at h) <;> (try (exfalso; first | omega | exact h True.intro | (simp only [and_self, not_true_eq_false] at h; done) | (simp only [beq_self_eq_true, Bool.true_eq_false, reduceCtorEq] at h; done)))) | (with_reducible intro hz; (try exact absurd hz (Nat.succ_ne_zero _)))))
  all_goals (refine ⟨?_⟩; simp_all)
/-- The span of a length. -/
def opO (d : Option FrT) (e : Option FrT) (g th w : FrT) : Option (FrT × FrT) := d.bind fun d => e.bind fun e => (muO (2, 1) e).bind fun b => (arO d b).bind fun a => (bkO g th w a.1).bind fun l => (bkO g th w a.2).bind fun h => some (l, h)
def opT (u : FrT) (E : List FrT) (vp : Int) (g : FrT) (T : List ThT) (c : ShT) (f k : FrT) : Option (FrT × FrT) := opO (sbO k f) (dbO u vp (wrN E E.length)) g (thAt T c).2.2 c.2.1
def opV (d e : FrT) (g th w : FrT) : FrT × FrT := (bkV g th w (tv (sbO d (tv (muO (2, 1) e)))), bkV g th w (tv (adO d (tv (muO (2, 1) e)))))
theorem op_e (d e : Option FrT) (dv ev g th w : FrT) (hd : ∀ v, d = some v → dv = v) (he : ∀ v, e = some v → ev = v) : (!e.isSome || !(muO (2, 1) ev).isSome || !d.isSome || !(sbO dv (tv (muO (2, 1) ev))).isSome || bkB g th w (tv (sbO dv (tv (muO (2, 1) ev)))) || !(adO dv (tv (muO (2, 1) ev))).isSome || bkB g th w (tv (adO dv (tv (muO (2, 1) ev))))) = !(opO d e g th w).isSome ∧ ∀ v, opO d e g th w = some v → opV dv ev g th w = v := by
  unfold opO opV
  cases d with
  | none => cases e <;> simp
  | some d =>
    obtain rfl := hd d rfl
    cases e with
    | none => simp
    | some e =>
      obtain rfl := he e rfl
      simp only [Option.bind_some]
      cases h1 : muO (2, 1) ev with
      | none => simp
      | some b =>
        simp only [Option.bind_some, tv, Option.getD_some, Option.isSome_some, Bool.not_true, Bool.false_or]
        unfold arO
        cases h2 : sbO dv b with
        | none => simp
        | some lo =>
          cases h3 : adO dv b with
          | none => simp
          | some hi =>
            have b1 := bk_e g th w lo
            have b2 := bk_e g th w hi
            simp only [Option.bind_some, Option.getD_some, Option.isSome_some, Bool.not_true, Bool.false_or, b1.1, b2.1, Bool.or_false]
            cases h4 : bkO g th w lo with
            | none => simp
            | some x =>
              cases h5 : bkO g th w hi with
              | none => simp
              | some y => 
                simp only [Option.bind_some, Option.isSome_some, Bool.not_true, Bool.or_false, true_and, Option.some.injEq]
                intro v hv
                rw [b1.2 x h4, b2.2 y h5]; exact hv
theorem sc_el {up uq : Int} {E : List (Int × Int)} (h : scB up uq E = true) : ∀ (j : Nat) (a : FrT), E[j]? = some a → smF a.1 a.2 := fun j a ha => by
  unfold scB at h
  simp only [Bool.and_eq_true] at h
  have := allI_at h.2 ha
  unfold elB at this
  simp only [Bool.and_eq_true] at this
  exact smF_ok this.1.1
end Go.Proofs.Ytbmejhabgoimeaa.Eng
