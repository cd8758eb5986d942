/- stretch: lemmas for the proof, no conditions of their own. -/
import Derived.Test.YtlanklogihplnaaXvalid
import Derived.Test.YtlanklogihplnaaXmean
set_option linter.unusedVariables false
set_option linter.unusedSimpArgs false
namespace Go.Proofs.Ytlanklogihplnaa.Eng
open Go Go.RowKit
set_option maxRecDepth 100000
/-- What StretchOf answers: 1 + grows * warm. -/
def stOk1 (p q p' q' : Int) : Bool := redOk (p * p') (q * q')
def stOk (p q p' q' : Int) : Bool := stOk1 p q p' q' && redOk (1 * redQ (p * p') (q * q') + redP (p * p') (q * q') * 1) (1 * redQ (p * p') (q * q'))
def stP (p q p' q' : Int) : Int := if (fOk p q && fOk p' q' && stOk p q p' q') = true then redP (1 * redQ (p * p') (q * q') + redP (p * p') (q * q') * 1) (1 * redQ (p * p') (q * q')) else 0
def stQ (p q p' q' : Int) : Int := if (fOk p q && fOk p' q' && stOk p q p' q') = true then redQ (1 * redQ (p * p') (q * q') + redP (p * p') (q * q') * 1) (1 * redQ (p * p') (q * q')) else 0
def stC (p q p' q' : Int) : Int := if (fOk p q && fOk p' q') = true then (if stOk p q p' q' = true then 0 else 3) else 1
def s_stretchI : Spec := fun args S => match args, S with
  | [.ptr b 0 0, .agg [.int .i64 p, .int .i64 q], .agg [.int .i64 p', .int .i64 q']], [.arr .bool [bad] 0 true] => ⟨b = 0 ∧ smF p q ∧ smF p' q',
      .agg [.int .i64 (tolP (1 * tolQ (p * p') (q * q') + tolP (p * p') (q * q') * 1) (1 * tolQ (p * p') (q * q'))), .int .i64 (tolQ (1 * tolQ (p * p') (q * q') + tolP (p * p') (q * q') * 1) (1 * tolQ (p * p') (q * q')))],
      [.arr .bool [(bad || !redOk (p * p') (q * q')) || !redOk (1 * tolQ (p * p') (q * q') + tolP (p * p') (q * q') * 1) (1 * tolQ (p * p') (q * q'))] 0 true]⟩
  | _, _ => noSpec
theorem ok_stretch : SpecOk Try.prog 51 s_stretchI := by
  intro args S h; unfold s_stretchI at h ⊢; (split at h <;> first | exact False.elim h | skip)
  dsimp only at h ⊢
  rename_i b p q p' q' bad
  obtain ⟨rfl, h1, h2⟩ := h
  have h3 := smF_tol (p * p') (q * q')
  have h4 : smF 1 1 := by unfold smF; omega
  refine funW tabOk (E := [(80, s_add), (82, s_mul), (81, s_num)]) ⟨ok_add, ok_mul, ok_num, trivial⟩ [(1, [(3, 0), (4, 0)])] (k := 1) (fn := Try.f51) rfl rfl rfl rfl rfl rfl ?_
  (repeat' (first | with_reducible refine And.intro ?_ ?_ | with_reducible exact VC.mk rfl | (with_reducible refine VC.mk ?_; dsimp only; done) | (with_reducible refine VC.mk ?_; omega) | (with_reducible refine VC.mk ?_; congr 1; (try simp (disch := omega) only [w64]); omega) | with_reducible exact True.intro | with_reducible exact drawOk_i (by decide +kernel) (by decide +kernel) (by decide +kernel) | with_reducible exact VC.mk ⟨rfl, fun e => e⟩ | ((with_reducible refine VC.mk ?_); exact ⟨rfl, rfl⟩) | with_reducible exact VC.mk (Nat.le_refl _) | ((with_reducible refine VC.mk ?_); (with_reducible refine ⟨?_, ?_, ?_⟩); (assumption); (assumption); (omega)) | ((with_reducible refine VC.mk ?_); (with_reducible refine ⟨Nat.le_trans (Nat.mul_le_mul_left _ (m := 1000) ?_) ?_, ?_⟩); (decide); (omega); (omega)) | exact VC.mk ⟨rfl, h1, h2⟩ | exact VC.mk ⟨rfl, h4, h3⟩ | ((conv => whnf); first | with_reducible refine And.intro ?_ ?_ | with_reducible exact VC.mk rfl | (with_reducible refine VC.mk ?_; dsimp only; done) | (with_reducible refine VC.mk ?_; omega) | (with_reducible refine VC.mk ?_; congr 1; (try simp (disch := omega) only [w64]); omega) | with_reducible exact True.intro | with_reducible exact drawOk_i (by decide +kernel) (by decide +kernel) (by decide +kernel) | with_reducible exact VC.mk ⟨rfl, fun e => e⟩ | ((with_reducible refine VC.mk ?_); exact ⟨rfl, rfl⟩) | with_reducible exact VC.mk (Nat.le_refl _) | ((with_reducible refine VC.mk ?_); (with_reducible refine ⟨?_, ?_, ?_⟩); (assumption); (assumption); (omega)) | ((with_reducible refine VC.mk ?_); (with_reducible refine ⟨Nat.le_trans (Nat.mul_le_mul_left _ (m := 1000) ?_) ?_, ?_⟩); (decide); (omega); (omega)) | exact VC.mk ⟨rfl, h1, h2⟩ | exact VC.mk ⟨rfl, h4, h3⟩ | with_reducible refine splitT ?_ | with_reducible refine splitF ?_ | ((with_reducible refine splitB.mk (fun h => ?_) (fun h => ?_)) <;> (try simp only [decide_eq_true_eq, decide_eq_false_iff_not, ne_eq, Decidable.not_not, Int.not_lt, Int.not_le, Bool.not_eq_true', Bool.not_eq_false'] at h) <;> (try simp (disch := omega) only [w64] at h) <;> (try (exfalso; first | omega | exact h True.intro | (simp only [and_self, not_true_eq_false] at h; done)))) | (with_reducible intro hz; (try exact absurd hz (Nat.succ_ne_zero _)))))) <;> (try (conv => whnf))
def s_st : Spec := fun args S => match args, S with
  | [.agg [.int .i64 p, .int .i64 q], .agg [.int .i64 p', .int .i64 q']], [] => ⟨True, .tup [.agg [.int .i64 (stP p q p' q'), .int .i64 (stQ p q p' q')], .int .i64 (stC p q p' q')], []⟩
  | _, _ => noSpec
theorem ok_StretchOfI : SpecOk Try.prog 22 s_st := by
  intro args S h; unfold s_st at h ⊢; (split at h <;> first | exact False.elim h | skip)
  dsimp only at h ⊢
  rename_i p q p' q'
  refine funW tabOk (E := [(49, s_allF), (51, s_stretchI), (50, s_one)]) ⟨ok_areValid, ok_stretch, ok_one, trivial⟩ [] (k := 0) (fn := Try.f22) rfl rfl rfl rfl rfl rfl ?_
  (repeat' (first | with_reducible refine And.intro ?_ ?_ | with_reducible exact VC.mk rfl | (with_reducible refine VC.mk ?_; dsimp only; done) | (with_reducible refine VC.mk ?_; omega) | (with_reducible refine VC.mk ?_; congr 1; (try simp (disch := omega) only [w64]); omega) | with_reducible exact True.intro | with_reducible exact drawOk_i (by decide +kernel) (by decide +kernel) (by decide +kernel) | with_reducible exact VC.mk ⟨rfl, fun e => e⟩ | ((with_reducible refine VC.mk ?_); exact ⟨rfl, rfl⟩) | with_reducible exact VC.mk (Nat.le_refl _) | ((with_reducible refine VC.mk ?_); (with_reducible refine ⟨?_, ?_, ?_⟩); (assumption); (assumption); (omega)) | ((with_reducible refine VC.mk ?_); (with_reducible refine ⟨Nat.le_trans (Nat.mul_le_mul_left _ (m := 1000) ?_) ?_, ?_⟩); (decide); (omega); (omega)) | ((conv => whnf); first | with_reducible refine And.intro ?_ ?_ | with_reducible exact VC.mk rfl | (with_reducible refine VC.mk ?_; dsimp only; done) | (with_reducible refine VC.mk ?_; omega) | (with_reducible refine VC.mk ?_; congr 1; (try simp (disch := omega) only [w64]); omega) | with_reducible exact True.intro | with_reducible exact drawOk_i (by decide +kernel) (by decide +kernel) (by decide +kernel) | with_reducible exact VC.mk ⟨rfl, fun e => e⟩ | ((with_reducible refine VC.mk ?_); exact ⟨rfl, rfl⟩) | with_reducible exact VC.mk (Nat.le_refl _) | ((with_reducible refine VC.mk ?_); (with_reducible refine ⟨?_, ?_, ?_⟩); (assumption); (assumption); (omega)) | ((with_reducible refine VC.mk ?_); (with_reducible refine ⟨Nat.le_trans (Nat.mul_le_mul_left _ (m := 1000) ?_) ?_, ?_⟩); (decide); (omega); (omega)) | with_reducible refine splitT ?_ | with_reducible refine splitF ?_ | ((with_reducible refine splitB.mk (fun h => ?_) (fun h => ?_)) <;> (try simp only [decide_eq_true_eq, decide_eq_false_iff_not, ne_eq, Decidable.not_not, Int.not_lt, Int.not_le, Bool.not_eq_true', Bool.not_eq_false'] at h) <;> (try simp (disch := omega) only [w64] at h) <;> (try (exfalso; first | omega | exact h True.intro | (simp only [and_self, not_true_eq_false] at h; done)))) | (with_reducible intro hz; (try exact absurd hz (Nat.succ_ne_zero _)))))) <;> (try (conv => whnf))
  · exact ⟨⟨Nat.le_refl _, by omega⟩⟩
  · have hv : (fOk p q && fOk p' q') = false := by simpa [allF, seg] using h
    refine ⟨?_⟩; simp only [stP, stQ, stC, hv]; simp
  · have hv : (fOk p q && fOk p' q') = true := by simpa [allF, seg] using h
    simp only [Bool.and_eq_true] at hv
    exact ⟨⟨rfl, smF_ok hv.1, smF_ok hv.2⟩⟩
  · have hv : (fOk p q && fOk p' q') = true := by simpa [allF, seg] using h
    refine ⟨?_⟩
    simp only [stP, stQ, stC, hv, stOk, stOk1, Bool.true_and]
    rcases Bool.eq_false_or_eq_true (redOk (p * p') (q * q')) with h1 | h1
    · rcases Bool.eq_false_or_eq_true (redOk (1 * redQ (p * p') (q * q') + redP (p * p') (q * q') * 1) (1 * redQ (p * p') (q * q'))) with h2 | h2
      · simp [tolP, tolQ, h1, h2, -Int.one_mul, -Int.mul_one]
      · simp [tolP, tolQ, h1, h2, -Int.one_mul, -Int.mul_one]
    · simp [h1]
def s_stS : Spec := fun args S => match args, S with
  | [.agg [.int .i64 p, .int .i64 q], .agg [.int .i64 p', .int .i64 q']], [] => ⟨fOk p q = true ∧ fOk p' q' = true, .tup [.agg [.int .i64 (stP p q p' q'), .int .i64 (stQ p q p' q')], .int .i64 (stC p q p' q')], []⟩
  | _, _ => noSpec
theorem ok_l07Stretch : SpecOk Try.prog 48 s_stS := by
  intro args S h; unfold s_stS at h ⊢; (split at h <;> first | exact False.elim h | skip)
  dsimp only at h ⊢
  rename_i p q p' q'
  refine funW tabOk (E := [(75, s_mulS), (76, s_addS), (77, s_num)]) ⟨ok_l01Mul, ok_l01Add, ok_l01Whole, trivial⟩ [(4, [(1, 0)])] (k := 0) (fn := Try.f48) rfl rfl rfl rfl rfl rfl ?_
  (repeat' (first | with_reducible refine And.intro ?_ ?_ | with_reducible exact VC.mk rfl | (with_reducible refine VC.mk ?_; dsimp only; done) | (with_reducible refine VC.mk ?_; omega) | (with_reducible refine VC.mk ?_; congr 1; (try simp (disch := omega) only [w64]); omega) | with_reducible exact True.intro | with_reducible exact drawOk_i (by decide +kernel) (by decide +kernel) (by decide +kernel) | with_reducible exact VC.mk ⟨rfl, fun e => e⟩ | ((with_reducible refine VC.mk ?_); exact ⟨rfl, rfl⟩) | with_reducible exact VC.mk (Nat.le_refl _) | ((with_reducible refine VC.mk ?_); (with_reducible refine ⟨?_, ?_, ?_⟩); (assumption); (assumption); (omega)) | ((with_reducible refine VC.mk ?_); (with_reducible refine ⟨Nat.le_trans (Nat.mul_le_mul_left _ (m := 1000) ?_) ?_, ?_⟩); (decide); (omega); (omega)) | ((conv => whnf); first | with_reducible refine And.intro ?_ ?_ | with_reducible exact VC.mk rfl | (with_reducible refine VC.mk ?_; dsimp only; done) | (with_reducible refine VC.mk ?_; omega) | (with_reducible refine VC.mk ?_; congr 1; (try simp (disch := omega) only [w64]); omega) | with_reducible exact True.intro | with_reducible exact drawOk_i (by decide +kernel) (by decide +kernel) (by decide +kernel) | with_reducible exact VC.mk ⟨rfl, fun e => e⟩ | ((with_reducible refine VC.mk ?_); exact ⟨rfl, rfl⟩) | with_reducible exact VC.mk (Nat.le_refl _) | ((with_reducible refine VC.mk ?_); (with_reducible refine ⟨?_, ?_, ?_⟩); (assumption); (assumption); (omega)) | ((with_reducible refine VC.mk ?_); (with_reducible refine ⟨Nat.le_trans (Nat.mul_le_mul_left _ (m := 1000) ?_) ?_, ?_⟩); (decide); (omega); (omega)) | with_reducible refine splitT ?_ | with_reducible refine splitF ?_ | ((with_reducible refine splitB.mk (fun h => ?_) (fun h => ?_)) <;> (try simp only [decide_eq_true_eq, decide_eq_false_iff_not, ne_eq, Decidable.not_not, Int.not_lt, Int.not_le, Bool.not_eq_true', Bool.not_eq_false'] at h) <;> (try simp (disch := omega) only [w64] at h) <;> (try (exfalso; first | omega | exact h True.intro | (simp only [and_self, not_true_eq_false] at h; done)))) | (with_reducible intro hz; (try exact absurd hz (Nat.succ_ne_zero _)))))) <;> (try (conv => whnf))
  · exact ⟨⟨smF_ok h.1, smF_ok h.2⟩⟩
  all_goals rename_i hv
  · have h1 : redOk (p * p') (q * q') = false := by unfold rdC at h; split at h <;> simp_all
    refine ⟨?_⟩; simp [stP, stQ, stC, hv, stOk, stOk1, rdC, h1]
  · have h1 : redOk (p * p') (q * q') = true := by unfold rdC at h; split at h <;> simp_all
    have h2 := smF_tol (p * p') (q * q')
    refine ⟨⟨by unfold smF; omega, ?_⟩⟩
    simpa [tolP, tolQ, rdP, rdQ, h1] using h2
  · have h1 : redOk (p * p') (q * q') = true := by unfold rdC at h; split at h <;> simp_all
    refine ⟨?_⟩
    simp [stP, stQ, stC, hv, stOk, stOk1, rdP, rdQ, rdC, h1]
theorem ok_StretchOfS : SpecOk Try.prog 20 s_st := by
  intro args S h; unfold s_st at h ⊢; (split at h <;> first | exact False.elim h | skip)
  dsimp only at h ⊢
  rename_i p q p' q'
  refine funW tabOk (E := [(47, s_two), (48, s_stS)]) ⟨ok_l01Two, ok_l07Stretch, trivial⟩ [] (k := 0) (fn := Try.f20) rfl rfl rfl rfl rfl rfl ?_
  (repeat' (first | with_reducible refine And.intro ?_ ?_ | with_reducible exact VC.mk rfl | (with_reducible refine VC.mk ?_; dsimp only; done) | (with_reducible refine VC.mk ?_; omega) | (with_reducible refine VC.mk ?_; congr 1; (try simp (disch := omega) only [w64]); omega) | with_reducible exact True.intro | with_reducible exact drawOk_i (by decide +kernel) (by decide +kernel) (by decide +kernel) | with_reducible exact VC.mk ⟨rfl, fun e => e⟩ | ((with_reducible refine VC.mk ?_); exact ⟨rfl, rfl⟩) | with_reducible exact VC.mk (Nat.le_refl _) | ((with_reducible refine VC.mk ?_); (with_reducible refine ⟨?_, ?_, ?_⟩); (assumption); (assumption); (omega)) | ((with_reducible refine VC.mk ?_); (with_reducible refine ⟨Nat.le_trans (Nat.mul_le_mul_left _ (m := 1000) ?_) ?_, ?_⟩); (decide); (omega); (omega)) | ((conv => whnf); first | with_reducible refine And.intro ?_ ?_ | with_reducible exact VC.mk rfl | (with_reducible refine VC.mk ?_; dsimp only; done) | (with_reducible refine VC.mk ?_; omega) | (with_reducible refine VC.mk ?_; congr 1; (try simp (disch := omega) only [w64]); omega) | with_reducible exact True.intro | with_reducible exact drawOk_i (by decide +kernel) (by decide +kernel) (by decide +kernel) | with_reducible exact VC.mk ⟨rfl, fun e => e⟩ | ((with_reducible refine VC.mk ?_); exact ⟨rfl, rfl⟩) | with_reducible exact VC.mk (Nat.le_refl _) | ((with_reducible refine VC.mk ?_); (with_reducible refine ⟨?_, ?_, ?_⟩); (assumption); (assumption); (omega)) | ((with_reducible refine VC.mk ?_); (with_reducible refine ⟨Nat.le_trans (Nat.mul_le_mul_left _ (m := 1000) ?_) ?_, ?_⟩); (decide); (omega); (omega)) | with_reducible refine splitT ?_ | with_reducible refine splitF ?_ | ((with_reducible refine splitB.mk (fun h => ?_) (fun h => ?_)) <;> (try simp only [decide_eq_true_eq, decide_eq_false_iff_not, ne_eq, Decidable.not_not, Int.not_lt, Int.not_le, Bool.not_eq_true', Bool.not_eq_false'] at h) <;> (try simp (disch := omega) only [w64] at h) <;> (try (exfalso; first | omega | exact h True.intro | (simp only [and_self, not_true_eq_false] at h; done)))) | (with_reducible intro hz; (try exact absurd hz (Nat.succ_ne_zero _)))))) <;> (try (conv => whnf))
  · have hv : (fOk p q && fOk p' q') = false := by simpa using h
    refine ⟨?_⟩; simp only [stP, stQ, stC, hv]; simp
  · have hv : (fOk p q && fOk p' q') = true := by simpa using h
    simp only [Bool.and_eq_true] at hv
    exact ⟨hv⟩
theorem law_stretchOf {y1 y2 : Int × Int} (ho1 : ET.Ok (.prod (.int .i64) (.int .i64)) y1) (ho2 : ET.Ok (.prod (.int .i64) (.int .i64)) y2) : RunsS Try.prog 6 [.agg (ET.enc (.prod (.int .i64) (.int .i64)) y1), .agg (ET.enc (.prod (.int .i64) (.int .i64)) y2)] [] (.bool true) [] := by
  obtain ⟨p, q⟩ := y1
  obtain ⟨p', q'⟩ := y2
  refine funW tabOk (E := [(21, s_toFrac), (23, s_eqFrac), (20, s_st), (22, s_st)]) ⟨ok_toFrac, ok_eqFrac, ok_StretchOfS, ok_StretchOfI, trivial⟩ [(1, [(2, 0), (8, 0), (8, 1), (8, 2)]), (2, [(2, 0), (8, 0), (8, 1), (8, 2)])] (k := 0) (fn := Try.f6) rfl rfl rfl rfl rfl rfl ?_
  (repeat' (first | with_reducible refine And.intro ?_ ?_ | with_reducible exact VC.mk rfl | (with_reducible refine VC.mk ?_; dsimp only; done) | (with_reducible refine VC.mk ?_; omega) | (with_reducible refine VC.mk ?_; congr 1; (try simp (disch := omega) only [w64]); omega) | with_reducible exact True.intro | with_reducible exact drawOk_i (by decide +kernel) (by decide +kernel) (by decide +kernel) | with_reducible exact VC.mk ⟨rfl, fun e => e⟩ | ((with_reducible refine VC.mk ?_); exact ⟨rfl, rfl⟩) | with_reducible exact VC.mk (Nat.le_refl _) | ((with_reducible refine VC.mk ?_); (with_reducible refine ⟨?_, ?_, ?_⟩); (assumption); (assumption); (omega)) | ((with_reducible refine VC.mk ?_); (with_reducible refine ⟨Nat.le_trans (Nat.mul_le_mul_left _ (m := 1000) ?_) ?_, ?_⟩); (decide); (omega); (omega)) | ((conv => whnf); first | with_reducible refine And.intro ?_ ?_ | with_reducible exact VC.mk rfl | (with_reducible refine VC.mk ?_; dsimp only; done) | (with_reducible refine VC.mk ?_; omega) | (with_reducible refine VC.mk ?_; congr 1; (try simp (disch := omega) only [w64]); omega) | with_reducible exact True.intro | with_reducible exact drawOk_i (by decide +kernel) (by decide +kernel) (by decide +kernel) | with_reducible exact VC.mk ⟨rfl, fun e => e⟩ | ((with_reducible refine VC.mk ?_); exact ⟨rfl, rfl⟩) | with_reducible exact VC.mk (Nat.le_refl _) | ((with_reducible refine VC.mk ?_); (with_reducible refine ⟨?_, ?_, ?_⟩); (assumption); (assumption); (omega)) | ((with_reducible refine VC.mk ?_); (with_reducible refine ⟨Nat.le_trans (Nat.mul_le_mul_left _ (m := 1000) ?_) ?_, ?_⟩); (decide); (omega); (omega)) | with_reducible refine splitT ?_ | with_reducible refine splitF ?_ | ((with_reducible refine splitB.mk (fun h => ?_) (fun h => ?_)) <;> (try simp only [decide_eq_true_eq, decide_eq_false_iff_not, ne_eq, Decidable.not_not, Int.not_lt, Int.not_le, Bool.not_eq_true', Bool.not_eq_false'] at h) <;> (try simp (disch := omega) only [w64] at h) <;> (try (exfalso; first | omega | exact h True.intro | (simp only [and_self, not_true_eq_false] at h; done)))) | (with_reducible intro hz; (try exact absurd hz (Nat.succ_ne_zero _)))))) <;> (try (conv => whnf))
end Go.Proofs.Ytlanklogihplnaa.Eng
