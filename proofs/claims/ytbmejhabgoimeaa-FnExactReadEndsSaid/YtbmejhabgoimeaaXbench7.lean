/- bench7: lemmas for the proof, no conditions of their own. -/
import Derived.Test.YtbmejhabgoimeaaXbench6
import Derived.Test.YtbmejhabgoimeaaXbench3
set_option linter.unusedVariables false
set_option linter.unusedSimpArgs false
namespace Go.Proofs.Ytbmejhabgoimeaa.Eng
open Go Go.RowKit
set_option maxRecDepth 100000
abbrev ShT : Type := Int × (Int × Int) × (Int × Int)
/-- A valid shot on m things. -/
def shB (m : Nat) (c : ShT) : Bool := decide (0 ≤ c.1 ∧ c.1 ≤ (m : Int) - 1) && fOk c.2.1.1 c.2.1.2 && decide ((c.2.1.1.natAbs : Int) ≤ 100 * c.2.1.2) && fOk c.2.2.1 c.2.2.2
theorem sh_no1 {m : Nat} {i wp wq sp sq : Int} (h : ¬ (0 ≤ i ∧ i ≤ (m : Int) - 1)) : shB m (i, (wp, wq), sp, sq) = false := by
  simp only [shB, decide_eq_false h, Bool.false_and]
theorem sh_no2 {m : Nat} {i wp wq sp sq : Int} (h : (fOk wp wq && fOk sp sq) = false) : shB m (i, (wp, wq), sp, sq) = false := by
  unfold shB
  dsimp only
  cases h1 : fOk wp wq
  · simp
  · cases h2 : fOk sp sq
    · simp
    · rw [h1, h2] at h; simp at h
theorem sh_no3 {m : Nat} {i wp wq sp sq : Int} (h : ¬ (wp.natAbs : Int) ≤ 100 * wq) : shB m (i, (wp, wq), sp, sq) = false := by
  simp only [shB, decide_eq_false h, Bool.and_false, Bool.false_and]
theorem sh_yes {m : Nat} {i wp wq sp sq : Int} (h1 : 0 ≤ i ∧ i ≤ (m : Int) - 1) (h2 : fOk wp wq = true) : shB m (i, (wp, wq), sp, sq) = (decide ((wp.natAbs : Int) ≤ 100 * wq) && fOk sp sq) := by
  simp only [shB, decide_eq_true h1, h2, Bool.true_and]
theorem smF_abs {p q : Int} (h : smF p q) : smF (p.natAbs : Int) q := by unfold smF at h ⊢; omega
theorem abs_in {p q : Int} (h : fOk p q = true) : -9223372036854775808 < p ∧ p < 9223372036854775808 := by
  have := smF_ok h; unfold smF at this; omega
theorem w100 {p q : Int} (h : fOk p q = true) : IntKind.i64.wrap (100 * q) = 100 * q := by
  have := smF_ok h; unfold smF at this; rw [w64 (by omega)]
def s_isThing : Spec := fun args S => match args, S with
  | [.agg [.int .i64 up, .int .i64 uq, .sl 0 s n x, .int .i64 vp, .bool vb, .int .i64 gp, .int .i64 gq, .sl 1 t m y], .int .i64 i], [.arr (.prod (.int .i64) (.int .i64)) l 2 wr, .arr (.prod .str (.prod (.prod (.int .i64) (.int .i64)) (.prod (.int .i64) (.int .i64)))) T 5 wT] => ⟨m ≤ 1048576, .bool (decide (0 ≤ i ∧ i ≤ (m : Int) - 1)), [.arr (.prod (.int .i64) (.int .i64)) l 2 wr, .arr (.prod .str (.prod (.prod (.int .i64) (.int .i64)) (.prod (.int .i64) (.int .i64)))) T 5 wT]⟩
  | _, _ => noSpec
theorem ok_isThing : SpecOk Try.prog 89 s_isThing := by
  intro args S h; unfold s_isThing at h ⊢; (split at h <;> first | exact False.elim h | skip)
  dsimp only at h ⊢
  refine funW tabOk (E := [(71, s_within)]) ⟨ok_within, trivial⟩ [] (k := 2) (fn := Try.f89) rfl rfl rfl rfl rfl rfl ?_
  (repeat' ((try (conv => whnf)); first | (with_reducible first | refine And.intro ?_ ?_ | refine WX.of ?_ | exact VC.mk rfl | exact True.intro | exact VC.mk ⟨rfl, fun e => e⟩ | exact VC.mk ⟨fun e => e, rfl⟩ | exact VC.mk (Nat.le_refl _) | exact drawOk_i (by decide +kernel) (by decide +kernel) (by decide +kernel)) | ((with_reducible refine VC.mk ?_); first | (dsimp only; done) | omega | (congr 1; (try simp (disch := omega) only [w64]); omega) | exact ⟨rfl, rfl⟩ | (refine ⟨?_, ?_, ?_⟩; assumption; assumption; omega) | (refine ⟨Nat.le_trans (Nat.mul_le_mul_left _ (m := 1000) ?_) ?_, ?_⟩; decide; omega; omega)) | with_reducible refine splitT ?_ | with_reducible refine splitF ?_ | ((with_reducible refine splitB.mk (fun h => ?_) (fun h => ?_)) <;> (try simp only [decide_eq_true_eq, decide_eq_false_iff_not, ne_eq, Decidable.not_not, Int.not_lt, Int.not_le, Bool.not_eq_true', Bool.not_eq_false'] at h) <;> (try simp (disch := omega) only [w64] at h) <;> (try (exfalso; first | omega | exact h True.intro | (simp only [and_self, not_true_eq_false] at h; done) | (simp only [beq_self_eq_true, Bool.true_eq_false, reduceCtorEq] at h; done)))) | (with_reducible intro hz; (try exact absurd hz (Nat.succ_ne_zero _)))))
  exact ⟨by rw [w64 (by omega)]⟩
def s_vShot : Spec := fun args S => match args, S with
  | [.agg [.int .i64 up, .int .i64 uq, .sl 0 s n x, .int .i64 vp, .bool vb, .int .i64 gp, .int .i64 gq, .sl 1 t m y], .agg [.int .i64 i, .int .i64 wp, .int .i64 wq, .int .i64 sp, .int .i64 sq]], [.arr (.prod (.int .i64) (.int .i64)) l 2 wr, .arr (.prod .str (.prod (.prod (.int .i64) (.int .i64)) (.prod (.int .i64) (.int .i64)))) T 5 wT] => ⟨(s + n ≤ l.length ∧ n ≤ 1048576) ∧ (t + m ≤ T.length ∧ m ≤ 1048576) ∧ ∀ (j : Nat) (a : ThT), T[j]? = some a → a.1.length < 4611686018427387904, .bool (bnB up uq vp gp gq (seg l s n) (seg T t m) && shB m (i, (wp, wq), sp, sq)), [.arr (.prod (.int .i64) (.int .i64)) l 2 wr, .arr (.prod .str (.prod (.prod (.int .i64) (.int .i64)) (.prod (.int .i64) (.int .i64)))) T 5 wT]⟩
  | _, _ => noSpec
theorem ok_ValidShotI : SpecOk Try.prog 52 s_vShot := by
  intro args S h; unfold s_vShot at h ⊢; (split at h <;> first | exact False.elim h | skip)
  dsimp only at h ⊢
  rename_i up uq s n x vp vb gp gq t m y i wp wq sp sq l wr T wT
  have hq := h
  have hc := cmpF_le (p := (wp.natAbs : Int)) (q := wq) (p' := 100) (q' := 1)
  refine funW tabOk (E := [(88, s_vBench), (89, s_isThing), (70, s_allF), (57, s_size), (26, s_num), (38, s_cmp)]) ⟨ok_ValidBenchI, ok_isThing, ok_areValid, ok_size, ok_num, ok_compare, trivial⟩ [] (k := 2) (fn := Try.f52) rfl rfl rfl rfl rfl rfl ?_
  (repeat' ((try (conv => whnf)); first | (with_reducible first | refine And.intro ?_ ?_ | refine WX.of ?_ | exact VC.mk rfl | exact True.intro | exact VC.mk ⟨rfl, fun e => e⟩ | exact VC.mk ⟨fun e => e, rfl⟩ | exact VC.mk (Nat.le_refl _) | exact drawOk_i (by decide +kernel) (by decide +kernel) (by decide +kernel)) | ((with_reducible refine VC.mk ?_); first | (dsimp only; done) | omega | (congr 1; (try simp (disch := omega) only [w64]); omega) | exact ⟨rfl, rfl⟩ | (refine ⟨?_, ?_, ?_⟩; assumption; assumption; omega) | (refine ⟨Nat.le_trans (Nat.mul_le_mul_left _ (m := 1000) ?_) ?_, ?_⟩; decide; omega; omega)) | ((with_reducible refine VC.mk ?_); exact hq) | ((with_reducible refine VC.mk ?_); exact ⟨Nat.le_refl 2, (by omega)⟩) | with_reducible refine splitT ?_ | with_reducible refine splitF ?_ | ((with_reducible refine splitB.mk (fun h => ?_) (fun h => ?_)) <;> (try simp only [decide_eq_true_eq, decide_eq_false_iff_not, ne_eq, Decidable.not_not, Int.not_lt, Int.not_le, Bool.not_eq_true', Bool.not_eq_false'] at h) <;> (try simp (disch := omega) only [w64] at h) <;> (try (exfalso; first | omega | exact h True.intro | (simp only [and_self, not_true_eq_false] at h; done) | (simp only [beq_self_eq_true, Bool.true_eq_false, reduceCtorEq] at h; done)))) | (with_reducible intro hz; (try exact absurd hz (Nat.succ_ne_zero _)))))
  · rw [allF_two, Bool.and_eq_true] at h
    exact ⟨smF_ok h.1⟩
  · rw [allF_two, Bool.and_eq_true] at h
    exact ⟨⟨smF_abs (smF_ok h.1), smF_1 (by omega)⟩⟩
  · rename_i hb hi
    rw [allF_two, Bool.and_eq_true] at h
    exact ⟨congrArg SV.bool (by rw [hb, Bool.true_and, sh_yes hi h.1, h.2, Bool.and_true, decide_eq_decide, hc]; omega)⟩
  · rw [allF_two] at h
    exact ⟨congrArg SV.bool (by rw [sh_no2 h, Bool.and_false])⟩
  · exact ⟨congrArg SV.bool (by rw [sh_no1 h, Bool.and_false])⟩
  · exact ⟨congrArg SV.bool (by rw [h, Bool.false_and])⟩
def s_l07Shot : Spec := fun args S => match args, S with
  | [.ptr 0 0 0, .ptr 1 0 0], [.box [.int .i64 up, .int .i64 uq, .sl 2 s n x, .int .i64 vp, .bool vb, .int .i64 gp, .int .i64 gq, .sl 3 t m y] true false, .arr (.prod (.int .i64) (.prod (.prod (.int .i64) (.int .i64)) (.prod (.int .i64) (.int .i64)))) [c] 0 true, .arr (.prod (.int .i64) (.int .i64)) l 2 wr, .arr (.prod .str (.prod (.prod (.int .i64) (.int .i64)) (.prod (.int .i64) (.int .i64)))) T 5 wT] => ⟨m ≤ 1048576, .bool (shB m c), [.box [.int .i64 up, .int .i64 uq, .sl 2 s n x, .int .i64 vp, .bool vb, .int .i64 gp, .int .i64 gq, .sl 3 t m y] true false, .arr (.prod (.int .i64) (.prod (.prod (.int .i64) (.int .i64)) (.prod (.int .i64) (.int .i64)))) [c] 0 true, .arr (.prod (.int .i64) (.int .i64)) l 2 wr, .arr (.prod .str (.prod (.prod (.int .i64) (.int .i64)) (.prod (.int .i64) (.int .i64)))) T 5 wT]⟩
  | _, _ => noSpec
theorem ok_l07Shot : SpecOk Try.prog 42 s_l07Shot := by
  intro args S h; unfold s_l07Shot at h ⊢; (split at h <;> first | exact False.elim h | skip)
  dsimp only at h ⊢
  rename_i up uq s n x vp vb gp gq t m y c l wr T wT
  obtain ⟨i, ⟨wp, wq⟩, sp, sq⟩ := c
  refine funW tabOk (E := [(78, s_within), (79, s_fOk), (80, s_abs)]) ⟨ok_l00In, ok_l01Ok, ok_l01Abs, trivial⟩ [(1, [(29, 2)])] (k := 4) (fn := Try.f42) rfl rfl rfl rfl rfl rfl ?_
  (repeat' ((try (conv => whnf)); first | (with_reducible first | refine And.intro ?_ ?_ | refine WX.of ?_ | exact VC.mk rfl | exact True.intro | exact VC.mk ⟨rfl, fun e => e⟩ | exact VC.mk ⟨fun e => e, rfl⟩ | exact VC.mk (Nat.le_refl _) | exact drawOk_i (by decide +kernel) (by decide +kernel) (by decide +kernel)) | ((with_reducible refine VC.mk ?_); first | (dsimp only; done) | omega | (congr 1; (try simp (disch := omega) only [w64]); omega) | exact ⟨rfl, rfl⟩ | (refine ⟨?_, ?_, ?_⟩; assumption; assumption; omega) | (refine ⟨Nat.le_trans (Nat.mul_le_mul_left _ (m := 1000) ?_) ?_, ?_⟩; decide; omega; omega)) | with_reducible refine splitT ?_ | with_reducible refine splitF ?_ | ((with_reducible refine splitB.mk (fun h => ?_) (fun h => ?_)) <;> (try simp only [decide_eq_true_eq, decide_eq_false_iff_not, ne_eq, Decidable.not_not, Int.not_lt, Int.not_le, Bool.not_eq_true', Bool.not_eq_false'] at h) <;> (try simp (disch := omega) only [w64] at h) <;> (try (exfalso; first | omega | exact h True.intro | (simp only [and_self, not_true_eq_false] at h; done) | (simp only [beq_self_eq_true, Bool.true_eq_false, reduceCtorEq] at h; done)))) | (with_reducible intro hz; (try exact absurd hz (Nat.succ_ne_zero _)))))
  · exact ⟨abs_in h⟩
  · rename_i hi hf
    rw [w100 hf] at h
    exact ⟨congrArg SV.bool (by rw [sh_yes hi hf, decide_eq_true h, Bool.true_and])⟩
  · rename_i hi hf
    rw [w100 hf] at h
    exact ⟨congrArg SV.bool (by rw [sh_no3 (Int.not_le.2 h)])⟩
  · exact ⟨congrArg SV.bool (by rw [sh_no2 (by rw [h, Bool.false_and])])⟩
  · exact ⟨congrArg SV.bool (by rw [sh_no1 h])⟩
theorem ok_ValidShotS : SpecOk Try.prog 17 s_vShot := by
  intro args S h; unfold s_vShot at h ⊢; (split at h <;> first | exact False.elim h | skip)
  dsimp only at h ⊢
  rename_i up uq s n x vp vb gp gq t m y i wp wq sp sq l wr T wT
  have hq := h
  refine funW tabOk (E := [(41, s_l07Ok), (42, s_l07Shot)]) ⟨ok_l07Ok, ok_l07Shot, trivial⟩ [] (k := 2) (fn := Try.f17) rfl rfl rfl rfl rfl rfl ?_
  (repeat' ((try (conv => whnf)); first | (with_reducible first | refine And.intro ?_ ?_ | refine WX.of ?_ | exact VC.mk rfl | exact True.intro | exact VC.mk ⟨rfl, fun e => e⟩ | exact VC.mk ⟨fun e => e, rfl⟩ | exact VC.mk (Nat.le_refl _) | exact drawOk_i (by decide +kernel) (by decide +kernel) (by decide +kernel)) | ((with_reducible refine VC.mk ?_); first | (dsimp only; done) | omega | (congr 1; (try simp (disch := omega) only [w64]); omega) | exact ⟨rfl, rfl⟩ | (refine ⟨?_, ?_, ?_⟩; assumption; assumption; omega) | (refine ⟨Nat.le_trans (Nat.mul_le_mul_left _ (m := 1000) ?_) ?_, ?_⟩; decide; omega; omega)) | ((with_reducible refine VC.mk ?_); exact hq) | with_reducible refine splitT ?_ | with_reducible refine splitF ?_ | ((with_reducible refine splitB.mk (fun h => ?_) (fun h => ?_)) <;> (try simp only [decide_eq_true_eq, decide_eq_false_iff_not, ne_eq, Decidable.not_not, Int.not_lt, Int.not_le, Bool.not_eq_true', Bool.not_eq_false'] at h) <;> (try simp (disch := omega) only [w64] at h) <;> (try (exfalso; first | omega | exact h True.intro | (simp only [and_self, not_true_eq_false] at h; done) | (simp only [beq_self_eq_true, Bool.true_eq_false, reduceCtorEq] at h; done)))) | (with_reducible intro hz; (try exact absurd hz (Nat.succ_ne_zero _)))))
  all_goals (refine ⟨congrArg SV.bool ?_⟩; simp only [*, Bool.true_and, Bool.false_and])
def s_toShot : Spec := fun args S => match args, S with
  | [.agg [.int .i64 i, .int .i64 wp, .int .i64 wq, .int .i64 sp, .int .i64 sq]], [] => ⟨True, .agg [.int .i64 i, .int .i64 wp, .int .i64 wq, .int .i64 sp, .int .i64 sq], []⟩
  | _, _ => noSpec
theorem ok_toShot : SpecOk Try.prog 8 s_toShot := by
  intro args S h; unfold s_toShot at h ⊢; (split at h <;> first | exact False.elim h | skip)
  dsimp only at h ⊢
  refine funW tabOk (E := [(21, s_toFrac)]) ⟨ok_toFrac, trivial⟩ [] (k := 0) (fn := Try.f8) rfl rfl rfl rfl rfl rfl ?_
  (repeat' ((try (conv => whnf)); first | (with_reducible first | refine And.intro ?_ ?_ | refine WX.of ?_ | exact VC.mk rfl | exact True.intro | exact VC.mk ⟨rfl, fun e => e⟩ | exact VC.mk ⟨fun e => e, rfl⟩ | exact VC.mk (Nat.le_refl _) | exact drawOk_i (by decide +kernel) (by decide +kernel) (by decide +kernel)) | ((with_reducible refine VC.mk ?_); first | (dsimp only; done) | omega | (congr 1; (try simp (disch := omega) only [w64]); omega) | exact ⟨rfl, rfl⟩ | (refine ⟨?_, ?_, ?_⟩; assumption; assumption; omega) | (refine ⟨Nat.le_trans (Nat.mul_le_mul_left _ (m := 1000) ?_) ?_, ?_⟩; decide; omega; omega)) | with_reducible refine splitT ?_ | with_reducible refine splitF ?_ | ((with_reducible refine splitB.mk (fun h => ?_) (fun h => ?_)) <;> (try simp only [decide_eq_true_eq, decide_eq_false_iff_not, ne_eq, Decidable.not_not, Int.not_lt, Int.not_le, Bool.not_eq_true', Bool.not_eq_false'] at h) <;> (try simp (disch := omega) only [w64] at h) <;> (try (exfalso; first | omega | exact h True.intro | (simp only [and_self, not_true_eq_false] at h; done) | (simp only [beq_self_eq_true, Bool.true_eq_false, reduceCtorEq] at h; done)))) | (with_reducible intro hz; (try exact absurd hz (Nat.succ_ne_zero _)))))
theorem tot_at {α : Type} {f : α → Nat} {L : List α} {i : Nat} {a : α} (h : L[i]? = some a) : f a ≤ tot f L := by
  have h1 := tot_step (f := f) h
  have h2 := tot_le (f := f) (L := L) (i + 1)
  omega
end Go.Proofs.Ytbmejhabgoimeaa.Eng
