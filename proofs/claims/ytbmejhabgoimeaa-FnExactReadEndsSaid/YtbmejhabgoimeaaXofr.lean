/- ofr: lemmas for the proof, no conditions of their own. -/
import Derived.Test.YtbmejhabgoimeaaXspans
set_option linter.unusedVariables false
set_option linter.unusedSimpArgs false
namespace Go.Proofs.Ytbmejhabgoimeaa.Eng
open Go Go.RowKit
set_option maxRecDepth 100000
/-- Fractions that may fail. -/
abbrev FrT : Type := Int × Int
def rO (p q : Int) : Option FrT := if redOk p q = true then some (redP p q, redQ p q) else none
def adO (a b : FrT) : Option FrT := rO (a.1 * b.2 + b.1 * a.2) (a.2 * b.2)
def sbO (a b : FrT) : Option FrT := rO (a.1 * b.2 - b.1 * a.2) (a.2 * b.2)
def muO (a b : FrT) : Option FrT := rO (a.1 * b.1) (a.2 * b.2)
def dvO (a b : FrT) : Option FrT := if b.1 = 0 then none else rO (a.1 * b.2) (a.2 * b.1)
def tv (o : Option FrT) : FrT := o.getD (0, 1)
def zv (o : Option FrT) : FrT := o.getD (0, 0)
def oC (o : Option FrT) : Int := if o.isSome = true then 0 else 3
theorem tv_r (p q : Int) : tolP p q = (tv (rO p q)).1 ∧ tolQ p q = (tv (rO p q)).2 ∧ redOk p q = (rO p q).isSome := by
  unfold tolP tolQ rO tv
  cases redOk p q <;> simp
theorem zv_r (p q : Int) : rdP p q = (zv (rO p q)).1 ∧ rdQ p q = (zv (rO p q)).2 ∧ rdC p q = oC (rO p q) := by
  unfold rdP rdQ rdC rO zv oC
  cases redOk p q <;> simp
theorem smF_tv (o : Option FrT) (h : ∀ v, o = some v → smF v.1 v.2) : smF (tv o).1 (tv o).2 := by
  cases o with
  | none => exact smF_1 (n := 0) (by omega)
  | some v => exact h v rfl
theorem rO_f {p q : Int} {v : FrT} (h : rO p q = some v) : fOk v.1 v.2 = true := by
  unfold rO at h
  split at h
  · rename_i hk; obtain rfl := Option.some.inj h; exact hk
  · simp at h
theorem smF_rO (p q : Int) : smF (tv (rO p q)).1 (tv (rO p q)).2 := smF_tv _ fun v h => smF_ok (rO_f h)
theorem smF_dv (a b : FrT) : smF (tv (dvO a b)).1 (tv (dvO a b)).2 := by
  unfold dvO; split
  · exact smF_1 (n := 0) (by omega)
  · exact smF_rO _ _
def s_addO : Spec := fun args S => match args, S with
  | [.ptr b 0 0, .agg [.int .i64 p, .int .i64 q], .agg [.int .i64 p', .int .i64 q']], [.arr .bool [bad] 0 true] => ⟨b = 0 ∧ smF p q ∧ smF p' q', .agg [.int .i64 (tv (adO (p, q) (p', q'))).1, .int .i64 (tv (adO (p, q) (p', q'))).2], [.arr .bool [bad || !(adO (p, q) (p', q')).isSome] 0 true]⟩
  | _, _ => noSpec
def s_subO : Spec := fun args S => match args, S with
  | [.ptr b 0 0, .agg [.int .i64 p, .int .i64 q], .agg [.int .i64 p', .int .i64 q']], [.arr .bool [bad] 0 true] => ⟨b = 0 ∧ smF p q ∧ smF p' q', .agg [.int .i64 (tv (sbO (p, q) (p', q'))).1, .int .i64 (tv (sbO (p, q) (p', q'))).2], [.arr .bool [bad || !(sbO (p, q) (p', q')).isSome] 0 true]⟩
  | _, _ => noSpec
def s_mulO : Spec := fun args S => match args, S with
  | [.ptr b 0 0, .agg [.int .i64 p, .int .i64 q], .agg [.int .i64 p', .int .i64 q']], [.arr .bool [bad] 0 true] => ⟨b = 0 ∧ smF p q ∧ smF p' q', .agg [.int .i64 (tv (muO (p, q) (p', q'))).1, .int .i64 (tv (muO (p, q) (p', q'))).2], [.arr .bool [bad || !(muO (p, q) (p', q')).isSome] 0 true]⟩
  | _, _ => noSpec
def s_divO : Spec := fun args S => match args, S with
  | [.ptr b 0 0, .agg [.int .i64 p, .int .i64 q], .agg [.int .i64 p', .int .i64 q']], [.arr .bool [bad] 0 true] => ⟨b = 0 ∧ smF p q ∧ smF p' q', .agg [.int .i64 (tv (dvO (p, q) (p', q'))).1, .int .i64 (tv (dvO (p, q) (p', q'))).2], [.arr .bool [bad || !(dvO (p, q) (p', q')).isSome] 0 true]⟩
  | _, _ => noSpec
theorem ok_addO : SpecOk Try.prog 53 s_addO := by
  intro args S h; unfold s_addO at h ⊢; (split at h <;> first | exact False.elim h | skip)
  dsimp only at h ⊢
  rename_i b p q p' q' bad
  have h2 := ok_add [.ptr b 0 0, .agg [.int .i64 p, .int .i64 q], .agg [.int .i64 p', .int .i64 q']] [.arr .bool [bad] 0 true] h
  have e := tv_r (p * q' + p' * q) (q * q')
  simp only [s_add, e.1, e.2.1, e.2.2] at h2
  exact h2
theorem ok_subO : SpecOk Try.prog 25 s_subO := by
  intro args S h; unfold s_subO at h ⊢; (split at h <;> first | exact False.elim h | skip)
  dsimp only at h ⊢
  rename_i b p q p' q' bad
  have h2 := ok_sub [.ptr b 0 0, .agg [.int .i64 p, .int .i64 q], .agg [.int .i64 p', .int .i64 q']] [.arr .bool [bad] 0 true] h
  have e := tv_r (p * q' - p' * q) (q * q')
  simp only [s_sub, e.1, e.2.1, e.2.2] at h2
  exact h2
theorem ok_mulO : SpecOk Try.prog 54 s_mulO := by
  intro args S h; unfold s_mulO at h ⊢; (split at h <;> first | exact False.elim h | skip)
  dsimp only at h ⊢
  rename_i b p q p' q' bad
  have h2 := ok_mul [.ptr b 0 0, .agg [.int .i64 p, .int .i64 q], .agg [.int .i64 p', .int .i64 q']] [.arr .bool [bad] 0 true] h
  have e := tv_r (p * p') (q * q')
  simp only [s_mul, e.1, e.2.1, e.2.2] at h2
  exact h2
theorem dv_r (p q p' q' : Int) : divP p q p' q' = (tv (dvO (p, q) (p', q'))).1 ∧ divQ p q p' q' = (tv (dvO (p, q) (p', q'))).2 ∧ divOk p q p' q' = (dvO (p, q) (p', q')).isSome := by
  have e := tv_r (p * q') (q * p')
  unfold divP divQ divOk dvO
  by_cases h : p' = 0
  · simp [h, tv]
  · simp [h, e.1, e.2.1, e.2.2]
theorem ok_divO : SpecOk Try.prog 29 s_divO := by
  intro args S h; unfold s_divO at h ⊢; (split at h <;> first | exact False.elim h | skip)
  dsimp only at h ⊢
  rename_i b p q p' q' bad
  have h2 := ok_div [.ptr b 0 0, .agg [.int .i64 p, .int .i64 q], .agg [.int .i64 p', .int .i64 q']] [.arr .bool [bad] 0 true] h
  have e := dv_r p q p' q'
  simp only [s_div, e.1, e.2.1, e.2.2] at h2
  exact h2
def s_oneO : Spec := fun args S => match args, S with
  | [.ptr b 0 0, .agg [.int .i64 p, .int .i64 q]], [.arr .bool [bad] 0 true] => ⟨b = 0, .tup [.agg [.int .i64 (if bad = true then 0 else p), .int .i64 (if bad = true then 0 else q)], .int .i64 (if bad = true then 3 else 0)], [.arr .bool [bad] 0 true]⟩
  | _, _ => noSpec
def s_addZ : Spec := fun args S => match args, S with
  | [.agg [.int .i64 p, .int .i64 q], .agg [.int .i64 p', .int .i64 q']], [] => ⟨smF p q ∧ smF p' q', .tup [.agg [.int .i64 (zv (adO (p, q) (p', q'))).1, .int .i64 (zv (adO (p, q) (p', q'))).2], .int .i64 (oC (adO (p, q) (p', q')))], []⟩
  | _, _ => noSpec
def s_mulZ : Spec := fun args S => match args, S with
  | [.agg [.int .i64 p, .int .i64 q], .agg [.int .i64 p', .int .i64 q']], [] => ⟨smF p q ∧ smF p' q', .tup [.agg [.int .i64 (zv (muO (p, q) (p', q'))).1, .int .i64 (zv (muO (p, q) (p', q'))).2], .int .i64 (oC (muO (p, q) (p', q')))], []⟩
  | _, _ => noSpec
def s_subZ : Spec := fun args S => match args, S with
  | [.agg [.int .i64 p, .int .i64 q], .agg [.int .i64 p', .int .i64 q']], [] => ⟨smF p q ∧ smF p' q', .tup [.agg [.int .i64 (zv (sbO (p, q) (p', q'))).1, .int .i64 (zv (sbO (p, q) (p', q'))).2], .int .i64 (oC (sbO (p, q) (p', q')))], []⟩
  | _, _ => noSpec
def s_divZ : Spec := fun args S => match args, S with
  | [.agg [.int .i64 p, .int .i64 q], .agg [.int .i64 p', .int .i64 q']], [] => ⟨smF p q ∧ smF p' q' ∧ p' ≠ 0, .tup [.agg [.int .i64 (zv (dvO (p, q) (p', q'))).1, .int .i64 (zv (dvO (p, q) (p', q'))).2], .int .i64 (oC (dvO (p, q) (p', q')))], []⟩
  | _, _ => noSpec
theorem ok_l01AddZ : SpecOk Try.prog 82 s_addZ := by
  intro args S h; unfold s_addZ at h ⊢; (split at h <;> first | exact False.elim h | skip)
  dsimp only at h ⊢
  rename_i p q p' q'
  have h2 := ok_l01Add [.agg [.int .i64 p, .int .i64 q], .agg [.int .i64 p', .int .i64 q']] [] h
  have e := zv_r (p * q' + p' * q) (q * q')
  simp only [s_addS, e.1, e.2.1, e.2.2] at h2
  exact h2
theorem ok_l01MulZ : SpecOk Try.prog 81 s_mulZ := by
  intro args S h; unfold s_mulZ at h ⊢; (split at h <;> first | exact False.elim h | skip)
  dsimp only at h ⊢
  rename_i p q p' q'
  have h2 := ok_l01Mul [.agg [.int .i64 p, .int .i64 q], .agg [.int .i64 p', .int .i64 q']] [] h
  have e := zv_r (p * p') (q * q')
  simp only [s_mulS, e.1, e.2.1, e.2.2] at h2
  exact h2
def s_neg : Spec := fun args S => match args, S with
  | [.agg [.int .i64 p, .int .i64 q]], [] => ⟨smF p q, .agg [.int .i64 (-p), .int .i64 q], []⟩
  | _, _ => noSpec
theorem ok_l01Neg : SpecOk Try.prog 83 s_neg := by
  intro args S h; unfold s_neg at h ⊢; (split at h <;> first | exact False.elim h | skip)
  dsimp only at h ⊢
  rename_i p q
  unfold smF at h
  refine funW tabOk (E := []) trivial [] (k := 0) (fn := Try.f83) rfl rfl rfl rfl rfl rfl ?_
  (repeat' ((try (conv => whnf)); first | (with_reducible first | refine And.intro ?_ ?_ | refine WX.of ?_ | exact VC.mk rfl | exact True.intro | exact VC.mk ⟨rfl, fun e => e⟩ | exact VC.mk ⟨fun e => e, rfl⟩ | exact VC.mk (Nat.le_refl _) | exact drawOk_i (by decide +kernel) (by decide +kernel) (by decide +kernel)) | ((with_reducible refine VC.mk ?_); first | (dsimp only; done) | omega | (congr 1; (try simp (disch := omega) only [w64]); omega) | exact ⟨rfl, rfl⟩ | (refine ⟨?_, ?_, ?_⟩; assumption; assumption; omega) | (refine ⟨Nat.le_trans (Nat.mul_le_mul_left _ (m := 1000) ?_) ?_, ?_⟩; decide; omega; omega)) | with_reducible refine splitT ?_ | with_reducible refine splitF ?_ | ((with_reducible refine splitB.mk (fun h => ?_) (fun h => ?_)) <;> (try simp only [decide_eq_true_eq, decide_eq_false_iff_not, ne_eq, Decidable.not_not, Int.not_lt, Int.not_le, Bool.not_eq_true', Bool.not_eq_false'] at h) <;> (try simp (disch := omega) only [w64] at h) <;> (try (exfalso; first | omega | exact h True.intro | (simp only [and_self, not_true_eq_false] at h; done) | (simp only [beq_self_eq_true, Bool.true_eq_false, reduceCtorEq] at h; done)))) | (with_reducible intro hz; (try exact absurd hz (Nat.succ_ne_zero _)))))
  exact ⟨by rw [w64 (by omega), Int.zero_sub]⟩
theorem smF_neg {p q : Int} (h : smF p q) : smF (-p) q := by unfold smF at h ⊢; omega
theorem ok_l01SubZ : SpecOk Try.prog 45 s_subZ := by
  intro args S h; unfold s_subZ at h ⊢; (split at h <;> first | exact False.elim h | skip)
  dsimp only at h ⊢
  rename_i p q p' q'
  have e : adO (p, q) (-p', q') = sbO (p, q) (p', q') := by unfold adO sbO; dsimp only; rw [Int.neg_mul, Int.sub_eq_add_neg]
  refine funW tabOk (E := [(83, s_neg), (82, s_addZ)]) ⟨ok_l01Neg, ok_l01AddZ, trivial⟩ [(1, [(0, 1)])] (k := 0) (fn := Try.f45) rfl rfl rfl rfl rfl rfl ?_
  (repeat' ((try (conv => whnf)); first | (with_reducible first | refine And.intro ?_ ?_ | refine WX.of ?_ | exact VC.mk rfl | exact True.intro | exact VC.mk ⟨rfl, fun e => e⟩ | exact VC.mk ⟨fun e => e, rfl⟩ | exact VC.mk (Nat.le_refl _) | exact drawOk_i (by decide +kernel) (by decide +kernel) (by decide +kernel)) | ((with_reducible refine VC.mk ?_); first | (dsimp only; done) | omega | (congr 1; (try simp (disch := omega) only [w64]); omega) | exact ⟨rfl, rfl⟩ | (refine ⟨?_, ?_, ?_⟩; assumption; assumption; omega) | (refine ⟨Nat.le_trans (Nat.mul_le_mul_left _ (m := 1000) ?_) ?_, ?_⟩; decide; omega; omega)) | ((with_reducible refine VC.mk ?_); exact h.2) | ((with_reducible refine VC.mk ?_); exact ⟨h.1, smF_neg h.2⟩) | with_reducible refine splitT ?_ | with_reducible refine splitF ?_ | ((with_reducible refine splitB.mk (fun h => ?_) (fun h => ?_)) <;> (try simp only [decide_eq_true_eq, decide_eq_false_iff_not, ne_eq, Decidable.not_not, Int.not_lt, Int.not_le, Bool.not_eq_true', Bool.not_eq_false'] at h) <;> (try simp (disch := omega) only [w64] at h) <;> (try (exfalso; first | omega | exact h True.intro | (simp only [and_self, not_true_eq_false] at h; done) | (simp only [beq_self_eq_true, Bool.true_eq_false, reduceCtorEq] at h; done)))) | (with_reducible intro hz; (try exact absurd hz (Nat.succ_ne_zero _)))))
  all_goals exact ⟨by rw [← e]⟩
theorem ok_l01DivZ : SpecOk Try.prog 49 s_divZ := by
  intro args S h; unfold s_divZ at h ⊢; (split at h <;> first | exact False.elim h | skip)
  dsimp only at h ⊢
  rename_i p q p' q'
  obtain ⟨h1, h2, h3⟩ := h
  have hm := smF_mul h1 h2
  have e := zv_r (p * q') (q * p')
  have e2 : dvO (p, q) (p', q') = rO (p * q') (q * p') := if_neg h3
  have hne : q * p' ≠ 0 := Int.mul_ne_zero (by unfold smF at h1; omega) h3
  rw [e2, ← e.1, ← e.2.1, ← e.2.2]
  refine funW tabOk (E := [(87, s_red)]) ⟨ok_l01Reduced, trivial⟩ [] (k := 0) (fn := Try.f49) rfl rfl rfl rfl rfl rfl ?_
  (repeat' ((try (conv => whnf)); first | (with_reducible first | refine And.intro ?_ ?_ | refine WX.of ?_ | exact VC.mk rfl | exact True.intro | exact VC.mk ⟨rfl, fun e => e⟩ | exact VC.mk ⟨fun e => e, rfl⟩ | exact VC.mk (Nat.le_refl _) | exact drawOk_i (by decide +kernel) (by decide +kernel) (by decide +kernel)) | ((with_reducible refine VC.mk ?_); first | (dsimp only; done) | omega | (congr 1; (try simp (disch := omega) only [w64]); omega) | exact ⟨rfl, rfl⟩ | (refine ⟨?_, ?_, ?_⟩; assumption; assumption; omega) | (refine ⟨Nat.le_trans (Nat.mul_le_mul_left _ (m := 1000) ?_) ?_, ?_⟩; decide; omega; omega)) | ((with_reducible refine VC.mk ?_); (simp (disch := omega) only [w64]); (refine ⟨hne, ?_, ?_⟩); (omega); (omega)) | with_reducible refine splitT ?_ | with_reducible refine splitF ?_ | ((with_reducible refine splitB.mk (fun h => ?_) (fun h => ?_)) <;> (try simp only [decide_eq_true_eq, decide_eq_false_iff_not, ne_eq, Decidable.not_not, Int.not_lt, Int.not_le, Bool.not_eq_true', Bool.not_eq_false'] at h) <;> (try simp (disch := omega) only [w64] at h) <;> (try (exfalso; first | omega | exact h True.intro | (simp only [and_self, not_true_eq_false] at h; done) | (simp only [beq_self_eq_true, Bool.true_eq_false, reduceCtorEq] at h; done)))) | (with_reducible intro hz; (try exact absurd hz (Nat.succ_ne_zero _)))))
  all_goals (refine ⟨?_⟩; simp (disch := omega) only [w64]; rfl)
/-- 1 + grows * warm. -/
def stO (g w : FrT) : Option FrT := (muO g w).bind fun m => adO (1, 1) m
def stV (g w : FrT) : FrT := tv (adO (1, 1) (tv (muO g w)))
theorem stV_e {g w s : FrT} (h : stO g w = some s) : stV g w = s := by
  unfold stO at h; unfold stV
  cases hm : muO g w with
  | none => rw [hm] at h; simp at h
  | some m => rw [hm] at h; simp only [Option.bind_some] at h; simp only [tv, Option.getD_some, h]
theorem stO_b {g w : FrT} : (!(muO g w).isSome || !(adO (1, 1) (tv (muO g w))).isSome) = !(stO g w).isSome ∨ muO g w = none := by
  unfold stO
  cases hm : muO g w with
  | none => exact .inr rfl
  | some m => left; simp [tv]
theorem stO_n {g w : FrT} (h : muO g w = none) : stO g w = none := by unfold stO; rw [h]; rfl
theorem smF_st (g w : FrT) : smF (stV g w).1 (stV g w).2 := smF_rO _ _
def s_strO : Spec := fun args S => match args, S with
  | [.ptr b 0 0, .agg [.int .i64 p, .int .i64 q], .agg [.int .i64 p', .int .i64 q']], [.arr .bool [bad] 0 true] => ⟨b = 0 ∧ smF p q ∧ smF p' q', .agg [.int .i64 (stV (p, q) (p', q')).1, .int .i64 (stV (p, q) (p', q')).2], [.arr .bool [bad || !(stO (p, q) (p', q')).isSome] 0 true]⟩
  | _, _ => noSpec
theorem smF_mu (a b : FrT) : smF (tv (muO a b)).1 (tv (muO a b)).2 := smF_rO _ _
theorem ok_strO : SpecOk Try.prog 24 s_strO := by
  intro args S h; unfold s_strO at h ⊢; (split at h <;> first | exact False.elim h | skip)
  dsimp only at h ⊢
  rename_i b p q p' q' bad
  obtain ⟨rfl, h1, h2⟩ := h
  have h3 := smF_mu (p, q) (p', q')
  have h4 : smF 1 1 := smF_1 (by omega)
  have hb : (bad || !(muO (p, q) (p', q')).isSome || !(adO (1, 1) (tv (muO (p, q) (p', q')))).isSome) = (bad || !(stO (p, q) (p', q')).isSome) := by
    unfold stO
    cases hm : muO (p, q) (p', q') with
    | none => simp
    | some m => simp [tv]
  refine funW tabOk (E := [(53, s_addO), (54, s_mulO), (26, s_num)]) ⟨ok_addO, ok_mulO, ok_num, trivial⟩ [(1, [(3, 0), (4, 0)])] (k := 1) (fn := Try.f24) rfl rfl rfl rfl rfl rfl ?_
  (repeat' ((try (conv => whnf)); first | (with_reducible first | refine And.intro ?_ ?_ | refine WX.of ?_ | exact VC.mk rfl | exact True.intro | exact VC.mk ⟨rfl, fun e => e⟩ | exact VC.mk ⟨fun e => e, rfl⟩ | exact VC.mk (Nat.le_refl _) | exact drawOk_i (by decide +kernel) (by decide +kernel) (by decide +kernel)) | ((with_reducible refine VC.mk ?_); first | (dsimp only; done) | omega | (congr 1; (try simp (disch := omega) only [w64]); omega) | exact ⟨rfl, rfl⟩ | (refine ⟨?_, ?_, ?_⟩; assumption; assumption; omega) | (refine ⟨Nat.le_trans (Nat.mul_le_mul_left _ (m := 1000) ?_) ?_, ?_⟩; decide; omega; omega)) | ((with_reducible refine VC.mk ?_); exact ⟨rfl, h1, h2⟩) | ((with_reducible refine VC.mk ?_); exact ⟨rfl, h4, h3⟩) | with_reducible refine splitT ?_ | with_reducible refine splitF ?_ | ((with_reducible refine splitB.mk (fun h => ?_) (fun h => ?_)) <;> (try simp only [decide_eq_true_eq, decide_eq_false_iff_not, ne_eq, Decidable.not_not, Int.not_lt, Int.not_le, Bool.not_eq_true', Bool.not_eq_false'] at h) <;> (try simp (disch := omega) only [w64] at h) <;> (try (exfalso; first | omega | exact h True.intro | (simp only [and_self, not_true_eq_false] at h; done) | (simp only [beq_self_eq_true, Bool.true_eq_false, reduceCtorEq] at h; done)))) | (with_reducible intro hz; (try exact absurd hz (Nat.succ_ne_zero _)))))
  all_goals exact ⟨by rw [← hb]⟩
def s_stZ : Spec := fun args S => match args, S with
  | [.agg [.int .i64 p, .int .i64 q], .agg [.int .i64 p', .int .i64 q']], [] => ⟨smF p q ∧ smF p' q', .tup [.agg [.int .i64 (zv (stO (p, q) (p', q'))).1, .int .i64 (zv (stO (p, q) (p', q'))).2], .int .i64 (oC (stO (p, q) (p', q')))], []⟩
  | _, _ => noSpec
theorem oC_n {o : Option FrT} (h : ¬ oC o = 0) : o = none := by cases o with | none => rfl | some v => simp [oC] at h
theorem oC_s {o : Option FrT} (h : oC o = 0) : ∃ v, o = some v := by cases o with | none => simp [oC] at h | some v => exact ⟨v, rfl⟩
theorem ok_stZ : SpecOk Try.prog 44 s_stZ := by
  intro args S h; unfold s_stZ at h ⊢; (split at h <;> first | exact False.elim h | skip)
  dsimp only at h ⊢
  rename_i p q p' q'
  have hq := h
  refine funW tabOk (E := [(81, s_mulZ), (82, s_addZ), (46, s_num)]) ⟨ok_l01MulZ, ok_l01AddZ, ok_l01Whole, trivial⟩ [(4, [(1, 0)])] (k := 0) (fn := Try.f44) rfl rfl rfl rfl rfl rfl ?_
  (repeat' ((try (conv => whnf)); first | (with_reducible first | refine And.intro ?_ ?_ | refine WX.of ?_ | exact VC.mk rfl | exact True.intro | exact VC.mk ⟨rfl, fun e => e⟩ | exact VC.mk ⟨fun e => e, rfl⟩ | exact VC.mk (Nat.le_refl _) | exact drawOk_i (by decide +kernel) (by decide +kernel) (by decide +kernel)) | ((with_reducible refine VC.mk ?_); first | (dsimp only; done) | omega | (congr 1; (try simp (disch := omega) only [w64]); omega) | exact ⟨rfl, rfl⟩ | (refine ⟨?_, ?_, ?_⟩; assumption; assumption; omega) | (refine ⟨Nat.le_trans (Nat.mul_le_mul_left _ (m := 1000) ?_) ?_, ?_⟩; decide; omega; omega)) | ((with_reducible refine VC.mk ?_); exact hq) | with_reducible refine splitT ?_ | with_reducible refine splitF ?_ | ((with_reducible refine splitB.mk (fun h => ?_) (fun h => ?_)) <;> (try simp only [decide_eq_true_eq, decide_eq_false_iff_not, ne_eq, Decidable.not_not, Int.not_lt, Int.not_le, Bool.not_eq_true', Bool.not_eq_false'] at h) <;> (try simp (disch := omega) only [w64] at h) <;> (try (exfalso; first | omega | exact h True.intro | (simp only [and_self, not_true_eq_false] at h; done) | (simp only [beq_self_eq_true, Bool.true_eq_false, reduceCtorEq] at h; done)))) | (with_reducible intro hz; (try exact absurd hz (Nat.succ_ne_zero _)))))
  · have e := oC_n h
    exact ⟨by simp [stO, e, zv, oC]⟩
  · obtain ⟨v, e⟩ := oC_s h
    have hv := smF_ok (rO_f e)
    exact ⟨⟨smF_1 (by omega), by rw [e]; exact hv⟩⟩
  · obtain ⟨v, e⟩ := oC_s h
    refine ⟨?_⟩
    simp only [stO, e, zv, Option.getD_some, Option.bind_some]
end Go.Proofs.Ytbmejhabgoimeaa.Eng
