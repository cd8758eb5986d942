/- ends: lemmas for the proof, no conditions of their own. -/
import Derived.Test.YtbmejhabgoimeaaXbench7
import Derived.Test.YtbmejhabgoimeaaXofr
set_option linter.unusedVariables false
set_option linter.unusedSimpArgs false
namespace Go.Proofs.Ytbmejhabgoimeaa.Eng
open Go Go.RowKit
set_option maxRecDepth 100000
/-- The ends of a shot. -/
def enO (g w L st : FrT) : Option FrT := (stO g w).bind fun s => (muO L s).bind fun a => adO st a
def thAt (T : List ThT) (c : ShT) : ThT := (T[c.1.toNat]?).getD ([], (0, 0), 0, 0)
def enT (T : List ThT) (c : ShT) : Option FrT := enO (thAt T c).2.2 c.2.1 (thAt T c).2.1 c.2.2
def okC (ok : Bool) (o : Option FrT) : Int := if ok = true then oC o else 1
theorem en_none {g w L st : FrT} (h : enO g w L st = none) : (false || !(stO g w).isSome || !(muO L (stV g w)).isSome || !(adO st (tv (muO L (stV g w)))).isSome) = true := by
  unfold enO at h
  cases h1 : stO g w with
  | none => simp
  | some s =>
    rw [h1] at h
    simp only [Option.bind_some] at h
    rw [stV_e h1]
    cases h2 : muO L s with
    | none => simp
    | some a =>
      rw [h2] at h
      simp only [Option.bind_some] at h
      simp [tv, h]
theorem en_some {g w L st e : FrT} (h : enO g w L st = some e) : (false || !(stO g w).isSome || !(muO L (stV g w)).isSome || !(adO st (tv (muO L (stV g w)))).isSome) = false ∧ tv (adO st (tv (muO L (stV g w)))) = e := by
  unfold enO at h
  cases h1 : stO g w with
  | none => rw [h1] at h; simp at h
  | some s =>
    rw [h1] at h
    simp only [Option.bind_some] at h
    rw [stV_e h1]
    cases h2 : muO L s with
    | none => rw [h2] at h; simp at h
    | some a =>
      rw [h2] at h
      simp only [Option.bind_some] at h
      simp [tv, h]
theorem bn_at {up uq vp gp gq : Int} {E : List (Int × Int)} {T : List ThT} (h : bnB up uq vp gp gq E T = true) {k : Nat} {a : ThT} (ha : T[k]? = some a) : fOk a.2.1.1 a.2.1.2 = true ∧ fOk a.2.2.1 a.2.2.2 = true ∧ gwB a.2.2.1 a.2.2.2 = true := by
  unfold bnB at h
  rw [Bool.and_eq_true] at h
  have := allI_at h.2 ha
  unfold thB wiB at this
  simp only [Bool.and_eq_true] at this
  have hg := this.2.2
  have hg2 := hg
  unfold gwB at hg2
  simp only [Bool.and_eq_true] at hg2
  exact ⟨this.2.1.1.1, hg2.1.1, hg⟩
theorem bn_g {up uq vp gp gq : Int} {E : List (Int × Int)} {T : List ThT} (h : bnB up uq vp gp gq E T = true) : fOk gp gq = true ∧ gwB gp gq = true ∧ fOk up uq = true ∧ (2 ≤ vp ∧ vp ≤ 40) ∧ scB up uq E = true := by
  unfold bnB at h
  simp only [Bool.and_eq_true, decide_eq_true_eq] at h
  obtain ⟨⟨⟨⟨hs, hv⟩, hg⟩, hT⟩, _⟩ := h
  have hs2 := hs
  unfold gwB at hg
  unfold scB at hs2
  simp only [Bool.and_eq_true] at hs2
  refine ⟨?_, hg, hs2.1.1.1, hv, hs⟩
  simp only [Bool.and_eq_true] at hg
  exact hg.1.1
theorem sh_at {m : Nat} {i wp wq sp sq : Int} (h : shB m (i, (wp, wq), sp, sq) = true) : (0 ≤ i ∧ i ≤ (m : Int) - 1) ∧ fOk wp wq = true ∧ (wp.natAbs : Int) ≤ 100 * wq ∧ fOk sp sq = true := by
  unfold shB at h
  simp only [Bool.and_eq_true, decide_eq_true_eq] at h
  exact ⟨h.1.1.1, h.1.1.2, h.1.2, h.2⟩
def s_ends : Spec := fun args S => match args, S with
  | [.agg [.int .i64 up, .int .i64 uq, .sl 0 s n x, .int .i64 vp, .bool vb, .int .i64 gp, .int .i64 gq, .sl 1 t m y], .agg [.int .i64 i, .int .i64 wp, .int .i64 wq, .int .i64 sp, .int .i64 sq]], [.arr (.prod (.int .i64) (.int .i64)) l 2 wr, .arr (.prod .str (.prod (.prod (.int .i64) (.int .i64)) (.prod (.int .i64) (.int .i64)))) T 5 wT] => ⟨(s + n ≤ l.length ∧ n ≤ 1048576) ∧ (t + m ≤ T.length ∧ m ≤ 1048576) ∧ ∀ (j : Nat) (a : ThT), T[j]? = some a → a.1.length < 4611686018427387904, .tup [.agg [.int .i64 (if okC (bnB up uq vp gp gq (seg l s n) (seg T t m) && shB m (i, (wp, wq), sp, sq)) (enT (seg T t m) (i, (wp, wq), sp, sq)) = 0 then sp else 0), .int .i64 (if okC (bnB up uq vp gp gq (seg l s n) (seg T t m) && shB m (i, (wp, wq), sp, sq)) (enT (seg T t m) (i, (wp, wq), sp, sq)) = 0 then sq else 0)], .agg [.int .i64 (if okC (bnB up uq vp gp gq (seg l s n) (seg T t m) && shB m (i, (wp, wq), sp, sq)) (enT (seg T t m) (i, (wp, wq), sp, sq)) = 0 then (zv (enT (seg T t m) (i, (wp, wq), sp, sq))).1 else 0), .int .i64 (if okC (bnB up uq vp gp gq (seg l s n) (seg T t m) && shB m (i, (wp, wq), sp, sq)) (enT (seg T t m) (i, (wp, wq), sp, sq)) = 0 then (zv (enT (seg T t m) (i, (wp, wq), sp, sq))).2 else 0)], .int .i64 (okC (bnB up uq vp gp gq (seg l s n) (seg T t m) && shB m (i, (wp, wq), sp, sq)) (enT (seg T t m) (i, (wp, wq), sp, sq)))], [.arr (.prod (.int .i64) (.int .i64)) l 2 wr, .arr (.prod .str (.prod (.prod (.int .i64) (.int .i64)) (.prod (.int .i64) (.int .i64)))) T 5 wT]⟩
  | _, _ => noSpec
theorem ok_EndsOfI : SpecOk Try.prog 23 s_ends := by
  intro args S h; unfold s_ends at h ⊢; (split at h <;> first | exact False.elim h | skip)
  dsimp only at h ⊢
  rename_i up uq s n x vp vb gp gq t m y i wp wq sp sq l wr T wT
  have hq := h
  have hM := seg_len h.2.1.1
  cases hk : (bnB up uq vp gp gq (seg l s n) (seg T t m) && shB m (i, (wp, wq), sp, sq)) with
  | false =>
    refine funW tabOk (E := [(52, s_vShot), (24, s_strO), (54, s_mulO), (53, s_addO)]) ⟨ok_ValidShotI, ok_strO, ok_mulO, ok_addO, trivial⟩ [(3, [(3, 0), (5, 0), (7, 0), (8, 0)]), (4, [(2, 1), (2, 2), (5, 1), (14, 0), (14, 1), (14, 2)]), (7, [(2, 1)])] (k := 2) (fn := Try.f23) rfl rfl rfl rfl rfl rfl ?_
    (repeat' ((try (conv => whnf)); first | (with_reducible first | refine And.intro ?_ ?_ | refine WX.of ?_ | exact VC.mk rfl | exact True.intro | exact VC.mk ⟨rfl, fun e => e⟩ | exact VC.mk ⟨fun e => e, rfl⟩ | exact VC.mk (Nat.le_refl _) | exact drawOk_i (by decide +kernel) (by decide +kernel) (by decide +kernel)) | ((with_reducible refine VC.mk ?_); first | (dsimp only; done) | omega | (congr 1; (try simp (disch := omega) only [w64]); omega) | exact ⟨rfl, rfl⟩ | (refine ⟨?_, ?_, ?_⟩; assumption; assumption; omega) | (refine ⟨Nat.le_trans (Nat.mul_le_mul_left _ (m := 1000) ?_) ?_, ?_⟩; decide; omega; omega)) | ((with_reducible refine VC.mk ?_); exact hq) | ((with_reducible refine splitT_of ?_ ?_); (focus (simp only [hk, Bool.not_true, Bool.not_false, decide_true, decide_false]; done))) | ((with_reducible refine splitF_of ?_ ?_); (focus (simp only [hk, Bool.not_true, Bool.not_false, decide_true, decide_false]; done))) | with_reducible refine splitT ?_ | with_reducible refine splitF ?_ | ((with_reducible refine splitB.mk (fun h => ?_) (fun h => ?_)) <;> (try simp only [decide_eq_true_eq, decide_eq_false_iff_not, ne_eq, Decidable.not_not, Int.not_lt, Int.not_le, Bool.not_eq_true', Bool.not_eq_false'] at h) <;> (try simp (disch := omega) only [w64] at h) <;> (try (exfalso; first | omega | exact h True.intro | (simp only [and_self, not_true_eq_false] at h; done) | (simp only [beq_self_eq_true, Bool.true_eq_false, reduceCtorEq] at h; done)))) | (with_reducible intro hz; (try exact absurd hz (Nat.succ_ne_zero _)))))
    all_goals exact ⟨by simp [okC]⟩
  | true =>
    have hk2 := hk
    rw [Bool.and_eq_true] at hk2
    have hs := sh_at hk2.2
    obtain ⟨⟨nm, ⟨Lp, Lq⟩, tp, tq⟩, ha⟩ := get_some (l := seg T t m) (i := i.toNat) (by omega)
    have hb := bn_at hk2.1 ha
    dsimp only at hb
    have e : thAt (seg T t m) (i, (wp, wq), sp, sq) = (nm, (Lp, Lq), tp, tq) := by unfold thAt; rw [ha]; rfl
    have hst := smF_st (tp, tq) (wp, wq)
    have hmu := smF_mu (Lp, Lq) (stV (tp, tq) (wp, wq))
    cases he : enO (tp, tq) (wp, wq) (Lp, Lq) (sp, sq) with
    | none =>
      have hbad := en_none he
      have hET : enT (seg T t m) (i, (wp, wq), sp, sq) = none := by unfold enT; rw [e]; exact he
      rw [hET]
      refine funW tabOk (E := [(52, s_vShot), (24, s_strO), (54, s_mulO), (53, s_addO)]) ⟨ok_ValidShotI, ok_strO, ok_mulO, ok_addO, trivial⟩ [(3, [(3, 0), (5, 0), (7, 0), (8, 0)]), (4, [(2, 1), (2, 2), (5, 1), (14, 0), (14, 1), (14, 2)]), (7, [(2, 1)])] (k := 2) (fn := Try.f23) rfl rfl rfl rfl rfl rfl ?_
      (repeat' ((try (conv => whnf)); first | (with_reducible first | refine And.intro ?_ ?_ | refine WX.of ?_ | exact VC.mk rfl | exact True.intro | exact VC.mk ⟨rfl, fun e => e⟩ | exact VC.mk ⟨fun e => e, rfl⟩ | exact VC.mk (Nat.le_refl _) | exact drawOk_i (by decide +kernel) (by decide +kernel) (by decide +kernel)) | ((with_reducible refine VC.mk ?_); first | (dsimp only; done) | omega | (congr 1; (try simp (disch := omega) only [w64]); omega) | exact ⟨rfl, rfl⟩ | (refine ⟨?_, ?_, ?_⟩; assumption; assumption; omega) | (refine ⟨Nat.le_trans (Nat.mul_le_mul_left _ (m := 1000) ?_) ?_, ?_⟩; decide; omega; omega)) | ((with_reducible refine VC.mk ?_); exact hq) | ((with_reducible refine VC.mk ?_); exact ⟨rfl, smF_ok hb.2.1, smF_ok hs.2.1⟩) | ((with_reducible refine VC.mk ?_); exact ⟨rfl, smF_ok hb.1, hst⟩) | ((with_reducible refine VC.mk ?_); exact ⟨rfl, smF_ok hs.2.2.2, hmu⟩) | ((with_reducible refine splitT_of ?_ ?_); (focus (simp only [hk, hbad, Bool.not_true, Bool.not_false, decide_true, decide_false]; done))) | ((with_reducible refine splitF_of ?_ ?_); (focus (simp only [hk, hbad, Bool.not_true, Bool.not_false, decide_true, decide_false]; done))) | with_reducible refine atL_p (seg_get ha).1 ?_ | with_reducible refine splitT ?_ | with_reducible refine splitF ?_ | ((with_reducible refine splitB.mk (fun h => ?_) (fun h => ?_)) <;> (try simp only [decide_eq_true_eq, decide_eq_false_iff_not, ne_eq, Decidable.not_not, Int.not_lt, Int.not_le, Bool.not_eq_true', Bool.not_eq_false'] at h) <;> (try simp (disch := omega) only [w64] at h) <;> (try (exfalso; first | omega | exact h True.intro | (simp only [and_self, not_true_eq_false] at h; done) | (simp only [beq_self_eq_true, Bool.true_eq_false, reduceCtorEq] at h; done)))) | (with_reducible intro hz; (try exact absurd hz (Nat.succ_ne_zero _)))))
    | some v =>
      have hbad := en_some he
      have hET : enT (seg T t m) (i, (wp, wq), sp, sq) = some v := by unfold enT; rw [e]; exact he
      rw [hET]
      refine funW tabOk (E := [(52, s_vShot), (24, s_strO), (54, s_mulO), (53, s_addO)]) ⟨ok_ValidShotI, ok_strO, ok_mulO, ok_addO, trivial⟩ [(3, [(3, 0), (5, 0), (7, 0), (8, 0)]), (4, [(2, 1), (2, 2), (5, 1), (14, 0), (14, 1), (14, 2)]), (7, [(2, 1)])] (k := 2) (fn := Try.f23) rfl rfl rfl rfl rfl rfl ?_
      (repeat' ((try (conv => whnf)); first | (with_reducible first | refine And.intro ?_ ?_ | refine WX.of ?_ | exact VC.mk rfl | exact True.intro | exact VC.mk ⟨rfl, fun e => e⟩ | exact VC.mk ⟨fun e => e, rfl⟩ | exact VC.mk (Nat.le_refl _) | exact drawOk_i (by decide +kernel) (by decide +kernel) (by decide +kernel)) | ((with_reducible refine VC.mk ?_); first | (dsimp only; done) | omega | (congr 1; (try simp (disch := omega) only [w64]); omega) | exact ⟨rfl, rfl⟩ | (refine ⟨?_, ?_, ?_⟩; assumption; assumption; omega) | (refine ⟨Nat.le_trans (Nat.mul_le_mul_left _ (m := 1000) ?_) ?_, ?_⟩; decide; omega; omega)) | ((with_reducible refine VC.mk ?_); exact hq) | ((with_reducible refine VC.mk ?_); exact ⟨rfl, smF_ok hb.2.1, smF_ok hs.2.1⟩) | ((with_reducible refine VC.mk ?_); exact ⟨rfl, smF_ok hb.1, hst⟩) | ((with_reducible refine VC.mk ?_); exact ⟨rfl, smF_ok hs.2.2.2, hmu⟩) | ((with_reducible refine splitT_of ?_ ?_); (focus (simp only [hk, hbad.1, Bool.not_true, Bool.not_false, decide_true, decide_false]; done))) | ((with_reducible refine splitF_of ?_ ?_); (focus (simp only [hk, hbad.1, Bool.not_true, Bool.not_false, decide_true, decide_false]; done))) | with_reducible refine atL_p (seg_get ha).1 ?_ | with_reducible refine splitT ?_ | with_reducible refine splitF ?_ | ((with_reducible refine splitB.mk (fun h => ?_) (fun h => ?_)) <;> (try simp only [decide_eq_true_eq, decide_eq_false_iff_not, ne_eq, Decidable.not_not, Int.not_lt, Int.not_le, Bool.not_eq_true', Bool.not_eq_false'] at h) <;> (try simp (disch := omega) only [w64] at h) <;> (try (exfalso; first | omega | exact h True.intro | (simp only [and_self, not_true_eq_false] at h; done) | (simp only [beq_self_eq_true, Bool.true_eq_false, reduceCtorEq] at h; done)))) | (with_reducible intro hz; (try exact absurd hz (Nat.succ_ne_zero _)))))
      exact ⟨by rw [← hbad.2]; rfl⟩
theorem stO_f {g w s : FrT} (h : stO g w = some s) : fOk s.1 s.2 = true := by
  unfold stO at h
  cases hm : muO g w with
  | none => rw [hm] at h; simp at h
  | some m => rw [hm] at h; exact rO_f h
theorem oC_3 {o : Option FrT} (h : ¬ oC o = 0) : oC o = 3 := by rw [oC_n h]; rfl
theorem en_1 {g w L st : FrT} (h : ¬ oC (stO g w) = 0) : enO g w L st = none ∧ oC (stO g w) = 3 := ⟨by unfold enO; rw [oC_n h]; rfl, oC_3 h⟩
theorem en_2 {g w L st : FrT} (h : oC (stO g w) = 0) (h2 : ¬ oC (muO L (zv (stO g w))) = 0) : enO g w L st = none ∧ oC (muO L (zv (stO g w))) = 3 := by
  obtain ⟨v, ev⟩ := oC_s h
  refine ⟨?_, oC_3 h2⟩
  have := oC_n h2
  rw [ev] at this
  unfold enO; rw [ev]
  show (muO L v).bind _ = none
  rw [show muO L v = none from this]; rfl
theorem en_3 {g w L st : FrT} (h : oC (stO g w) = 0) (h2 : oC (muO L (zv (stO g w))) = 0) : enO g w L st = adO st (zv (muO L (zv (stO g w)))) := by
  obtain ⟨v, ev⟩ := oC_s h
  obtain ⟨a, ea⟩ := oC_s h2
  rw [ev] at ea
  unfold enO; rw [ev]
  show (muO L v).bind _ = adO st (zv (muO L v))
  rw [show muO L v = some a from ea]; rfl
def s_l07Ends : Spec := fun args S => match args, S with
  | [.ptr 0 0 0, .ptr 1 0 0], [.box [.int .i64 up, .int .i64 uq, .sl 2 s n x, .int .i64 vp, .bool vb, .int .i64 gp, .int .i64 gq, .sl 3 t m y] true false, .arr (.prod (.int .i64) (.prod (.prod (.int .i64) (.int .i64)) (.prod (.int .i64) (.int .i64)))) [c] 0 true, .arr (.prod (.int .i64) (.int .i64)) l 2 wr, .arr (.prod .str (.prod (.prod (.int .i64) (.int .i64)) (.prod (.int .i64) (.int .i64)))) T 5 wT] => ⟨(t + m ≤ T.length ∧ m ≤ 1048576) ∧ bnB up uq vp gp gq (seg l s n) (seg T t m) = true ∧ shB m c = true, .tup [.agg [.int .i64 (if oC (enT (seg T t m) c) = 0 then c.2.2.1 else 0), .int .i64 (if oC (enT (seg T t m) c) = 0 then c.2.2.2 else 0)], .agg [.int .i64 (zv (enT (seg T t m) c)).1, .int .i64 (zv (enT (seg T t m) c)).2], .int .i64 (oC (enT (seg T t m) c))], [.box [.int .i64 up, .int .i64 uq, .sl 2 s n x, .int .i64 vp, .bool vb, .int .i64 gp, .int .i64 gq, .sl 3 t m y] true false, .arr (.prod (.int .i64) (.prod (.prod (.int .i64) (.int .i64)) (.prod (.int .i64) (.int .i64)))) [c] 0 true, .arr (.prod (.int .i64) (.int .i64)) l 2 wr, .arr (.prod .str (.prod (.prod (.int .i64) (.int .i64)) (.prod (.int .i64) (.int .i64)))) T 5 wT]⟩
  | _, _ => noSpec
set_option maxHeartbeats 1600000 in
theorem ok_l07Ends : SpecOk Try.prog 43 s_l07Ends := by
  intro args S h; unfold s_l07Ends at h ⊢; (split at h <;> first | exact False.elim h | skip)
  dsimp only at h ⊢
  rename_i up uq s n x vp vb gp gq t m y c l wr T wT
  obtain ⟨i, ⟨wp, wq⟩, sp, sq⟩ := c
  obtain ⟨h1, hb0, hs0⟩ := h
  have hM := seg_len h1.1
  have hs := sh_at hs0
  obtain ⟨⟨nm, ⟨Lp, Lq⟩, tp, tq⟩, ha⟩ := get_some (l := seg T t m) (i := i.toNat) (by have := hs.1; omega)
  have hb := bn_at hb0 ha
  dsimp only at hb
  have e : thAt (seg T t m) (i, (wp, wq), sp, sq) = (nm, (Lp, Lq), tp, tq) := by unfold thAt; rw [ha]; rfl
  have hET : enT (seg T t m) (i, (wp, wq), sp, sq) = enO (tp, tq) (wp, wq) (Lp, Lq) (sp, sq) := by unfold enT; rw [e]
  have hi := hs.1
  rw [hET]
  refine funW tabOk (E := [(44, s_stZ), (81, s_mulZ), (82, s_addZ)]) ⟨ok_stZ, ok_l01MulZ, ok_l01AddZ, trivial⟩ [(2, [(12, 0)]), (5, [(9, 0)]), (8, [(9, 0)]), (11, [(4, 1)])] (k := 4) (fn := Try.f43) rfl rfl rfl rfl rfl rfl ?_
  (repeat' ((try (conv => whnf)); first | (with_reducible first | refine And.intro ?_ ?_ | refine WX.of ?_ | exact VC.mk rfl | exact True.intro | exact VC.mk ⟨rfl, fun e => e⟩ | exact VC.mk ⟨fun e => e, rfl⟩ | exact VC.mk (Nat.le_refl _) | exact drawOk_i (by decide +kernel) (by decide +kernel) (by decide +kernel)) | ((with_reducible refine VC.mk ?_); first | (dsimp only; done) | omega | (congr 1; (try simp (disch := omega) only [w64]); omega) | exact ⟨rfl, rfl⟩ | (refine ⟨?_, ?_, ?_⟩; assumption; assumption; omega) | (refine ⟨Nat.le_trans (Nat.mul_le_mul_left _ (m := 1000) ?_) ?_, ?_⟩; decide; omega; omega)) | ((with_reducible refine VC.mk ?_); exact ⟨smF_ok hb.2.1, smF_ok hs.2.1⟩) | with_reducible refine atL_p (seg_get ha).1 ?_ | ((with_reducible refine VC.mk ?_); exact hi) | with_reducible refine splitT ?_ | with_reducible refine splitF ?_ | ((with_reducible refine splitB.mk (fun h => ?_) (fun h => ?_)) <;> (try simp only [decide_eq_true_eq, decide_eq_false_iff_not, ne_eq, Decidable.not_not, Int.not_lt, Int.not_le, Bool.not_eq_true', Bool.not_eq_false'] at h) <;> (try simp (disch := omega) only [w64] at h) <;> (try (exfalso; first | omega | exact h True.intro | (simp only [and_self, not_true_eq_false] at h; done) | (simp only [beq_self_eq_true, Bool.true_eq_false, reduceCtorEq] at h; done)))) | (with_reducible intro hz; (try exact absurd hz (Nat.succ_ne_zero _)))))
  · obtain ⟨e1, e2⟩ := en_1 (L := (Lp, Lq)) (st := (sp, sq)) h
    refine ⟨?_⟩
    simp only [e1, e2]
    rfl
  · obtain ⟨v, ev⟩ := oC_s h
    exact ⟨⟨smF_ok hb.1, by dsimp only; rw [ev]; exact smF_ok (stO_f ev)⟩⟩
  · rename_i h0
    obtain ⟨e1, e2⟩ := en_2 (st := (sp, sq)) h0 h
    refine ⟨?_⟩
    simp only [e1, e2]
    rfl
  · obtain ⟨v, ev⟩ := oC_s h
    exact ⟨⟨smF_ok hs.2.2.2, by dsimp only; rw [ev]; exact smF_ok (rO_f ev)⟩⟩
  · rename_i h0 h2
    have e1 := en_3 (st := (sp, sq)) h0 h2
    have e2 := oC_n h
    refine ⟨?_⟩
    rw [e1, show adO (sp, sq) (zv (muO (Lp, Lq) (zv (stO (tp, tq) (wp, wq))))) = none from e2]
    rfl
  · rename_i h0 h2
    have e1 := en_3 (st := (sp, sq)) h0 h2
    refine ⟨?_⟩
    rw [e1, if_pos h, if_pos h, h]
end Go.Proofs.Ytbmejhabgoimeaa.Eng
