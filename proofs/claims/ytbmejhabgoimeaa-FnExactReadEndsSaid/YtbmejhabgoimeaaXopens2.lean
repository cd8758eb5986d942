/- opens2: lemmas for the proof, no conditions of their own. -/
import Derived.Test.YtbmejhabgoimeaaXopens
set_option linter.unusedVariables false
set_option linter.unusedSimpArgs false
namespace Go.Proofs.Ytbmejhabgoimeaa.Eng
open Go Go.RowKit
set_option maxRecDepth 100000
def OkO (o : Option FrT) : Prop := ∀ v, o = some v → fOk v.1 v.2 = true
theorem okO_sb (a b : FrT) : OkO (sbO a b) := fun _ h => rO_f h
theorem okO_ad (a b : FrT) : OkO (adO a b) := fun _ h => rO_f h
theorem okO_mu (a b : FrT) : OkO (muO a b) := fun _ h => rO_f h
theorem okO_dv (a b : FrT) : OkO (dvO a b) := fun _ h => dv_f h
theorem okO_bind {α : Type} (o : Option α) (f : α → Option FrT) (h : ∀ x, OkO (f x)) : OkO (o.bind f) := fun v hv => by
  cases o with
  | none => simp at hv
  | some x => exact h x v hv
theorem okO_db (u : FrT) (vp : Int) (w : FrT) : OkO (dbO u vp w) := okO_bind _ _ fun _ => okO_bind _ _ fun _ => okO_ad _ _
theorem okO_bk (g1 g2 w a : FrT) : OkO (bkO g1 g2 w a) := okO_bind _ _ fun _ => okO_bind _ _ fun _ => okO_bind _ _ fun _ => okO_dv _ _
theorem splitO {o : Option FrT} {A B : Prop} (hf : OkO o) (h1 : o = none → A) (h2 : ∀ a b, o = some (a, b) → smF a b → B) : splitB (decide (oC o ≠ 0)) A B := by
  cases o with
  | none => exact ⟨fun _ => h1 rfl, fun e => by simp [oC] at e⟩
  | some v => exact ⟨fun e => by simp [oC] at e, fun _ => h2 v.1 v.2 rfl (smF_ok (hf v rfl))⟩
theorem splitAr {x y : FrT} {A B : Prop} (h1 : arO x y = none → A) (h2 : ∀ a b c d, arO x y = some ((a, b), (c, d)) → smF a b → smF c d → B) : splitB (decide (oS (arO x y) ≠ 0)) A B := by
  cases h : arO x y with
  | none => exact ⟨fun _ => h1 h, fun e => by simp [oS] at e⟩
  | some v => exact ⟨fun e => by simp [oS] at e, fun _ => h2 v.1.1 v.1.2 v.2.1 v.2.2 h (smF_ok (ar_f h).1) (smF_ok (ar_f h).2)⟩
def okS (ok : Bool) (o : Option (FrT × FrT)) : Int := if ok = true then oS o else 1
def s_open : Spec := fun args S => match args, S with
  | [.agg [.int .i64 up, .int .i64 uq, .sl 0 s n x, .int .i64 vp, .bool vb, .int .i64 gp, .int .i64 gq, .sl 1 t m y], .agg [.int .i64 i, .int .i64 wp, .int .i64 wq, .int .i64 sp, .int .i64 sq], .agg [.int .i64 fp, .int .i64 fq], .agg [.int .i64 kp, .int .i64 kq]], [.arr (.prod (.int .i64) (.int .i64)) l 2 wr, .arr (.prod .str (.prod (.prod (.int .i64) (.int .i64)) (.prod (.int .i64) (.int .i64)))) T 5 wT] => ⟨(s + n ≤ l.length ∧ n ≤ 1048576) ∧ (t + m ≤ T.length ∧ m ≤ 1048576) ∧ ∀ (j : Nat) (a : ThT), T[j]? = some a → a.1.length < 4611686018427387904, .tup [.agg [.int .i64 (if okS (bnB up uq vp gp gq (seg l s n) (seg T t m) && shB m (i, (wp, wq), sp, sq) && (fOk fp fq && fOk kp kq)) (opT (up, uq) (seg l s n) vp (gp, gq) (seg T t m) (i, (wp, wq), sp, sq) (fp, fq) (kp, kq)) = 0 then (z2 (opT (up, uq) (seg l s n) vp (gp, gq) (seg T t m) (i, (wp, wq), sp, sq) (fp, fq) (kp, kq))).1.1 else 0), .int .i64 (if okS (bnB up uq vp gp gq (seg l s n) (seg T t m) && shB m (i, (wp, wq), sp, sq) && (fOk fp fq && fOk kp kq)) (opT (up, uq) (seg l s n) vp (gp, gq) (seg T t m) (i, (wp, wq), sp, sq) (fp, fq) (kp, kq)) = 0 then (z2 (opT (up, uq) (seg l s n) vp (gp, gq) (seg T t m) (i, (wp, wq), sp, sq) (fp, fq) (kp, kq))).1.2 else 0), .int .i64 (if okS (bnB up uq vp gp gq (seg l s n) (seg T t m) && shB m (i, (wp, wq), sp, sq) && (fOk fp fq && fOk kp kq)) (opT (up, uq) (seg l s n) vp (gp, gq) (seg T t m) (i, (wp, wq), sp, sq) (fp, fq) (kp, kq)) = 0 then (z2 (opT (up, uq) (seg l s n) vp (gp, gq) (seg T t m) (i, (wp, wq), sp, sq) (fp, fq) (kp, kq))).2.1 else 0), .int .i64 (if okS (bnB up uq vp gp gq (seg l s n) (seg T t m) && shB m (i, (wp, wq), sp, sq) && (fOk fp fq && fOk kp kq)) (opT (up, uq) (seg l s n) vp (gp, gq) (seg T t m) (i, (wp, wq), sp, sq) (fp, fq) (kp, kq)) = 0 then (z2 (opT (up, uq) (seg l s n) vp (gp, gq) (seg T t m) (i, (wp, wq), sp, sq) (fp, fq) (kp, kq))).2.2 else 0)], .int .i64 (okS (bnB up uq vp gp gq (seg l s n) (seg T t m) && shB m (i, (wp, wq), sp, sq) && (fOk fp fq && fOk kp kq)) (opT (up, uq) (seg l s n) vp (gp, gq) (seg T t m) (i, (wp, wq), sp, sq) (fp, fq) (kp, kq)))], [.arr (.prod (.int .i64) (.int .i64)) l 2 wr, .arr (.prod .str (.prod (.prod (.int .i64) (.int .i64)) (.prod (.int .i64) (.int .i64)))) T 5 wT]⟩
  | _, _ => noSpec
def z2S (o : Option (FrT × FrT)) : SV := .agg [.int .i64 (z2 o).1.1, .int .i64 (z2 o).1.2, .int .i64 (z2 o).2.1, .int .i64 (z2 o).2.2]
def s_l07Open : Spec := fun args S => match args, S with
  | [.ptr 0 0 0, .ptr 1 0 0, .agg [.int .i64 fp, .int .i64 fq], .agg [.int .i64 kp, .int .i64 kq]], [.box [.int .i64 up, .int .i64 uq, .sl 2 s n x, .int .i64 vp, .bool vb, .int .i64 gp, .int .i64 gq, .sl 3 t m y] true false, .arr (.prod (.int .i64) (.prod (.prod (.int .i64) (.int .i64)) (.prod (.int .i64) (.int .i64)))) [c] 0 true, .arr (.prod (.int .i64) (.int .i64)) l 2 wr, .arr (.prod .str (.prod (.prod (.int .i64) (.int .i64)) (.prod (.int .i64) (.int .i64)))) T 5 wT] => ⟨((s + n ≤ l.length ∧ n ≤ 1048576) ∧ t + m ≤ T.length ∧ m ≤ 1048576) ∧ bnB up uq vp gp gq (seg l s n) (seg T t m) = true ∧ shB m c = true ∧ smF fp fq ∧ smF kp kq, .tup [z2S (opT (up, uq) (seg l s n) vp (gp, gq) (seg T t m) c (fp, fq) (kp, kq)), .int .i64 (oS (opT (up, uq) (seg l s n) vp (gp, gq) (seg T t m) c (fp, fq) (kp, kq)))], [.box [.int .i64 up, .int .i64 uq, .sl 2 s n x, .int .i64 vp, .bool vb, .int .i64 gp, .int .i64 gq, .sl 3 t m y] true false, .arr (.prod (.int .i64) (.prod (.prod (.int .i64) (.int .i64)) (.prod (.int .i64) (.int .i64)))) [c] 0 true, .arr (.prod (.int .i64) (.int .i64)) l 2 wr, .arr (.prod .str (.prod (.prod (.int .i64) (.int .i64)) (.prod (.int .i64) (.int .i64)))) T 5 wT]⟩
  | _, _ => noSpec
attribute [local irreducible] rO sbO adO muO dvO bkO dbO arO opO in
set_option maxHeartbeats 1600000 in
theorem ok_l07Open : SpecOk Try.prog 69 s_l07Open := by
  intro args S h; unfold s_l07Open at h ⊢; (split at h <;> first | exact False.elim h | skip)
  dsimp only at h ⊢
  rename_i fp fq kp kq up uq s n x vp vb gp gq t m y c l wr T wT
  obtain ⟨⟨h1, h2⟩, hb0, hs0, hf, hk⟩ := h
  have hL := seg_len h1.1
  have hgg := bn_g hb0
  have hel := sc_el hgg.2.2.2.2
  have hO : opT (up, uq) (seg l s n) vp (gp, gq) (seg T t m) c (fp, fq) (kp, kq) = opO (sbO (kp, kq) (fp, fq)) (dbO (up, uq) vp (wrN (seg l s n) n)) (gp, gq) (thAt (seg T t m) c).2.2 c.2.1 := by unfold opT; rw [hL]
  rw [hO]
  refine funW tabOk (E := [(45, s_subZ), (99, s_l02Open), (46, s_num), (81, s_mulZ), (100, s_around), (98, s_l07Back), (101, s_both)]) ⟨ok_l01SubZ, ok_l02Open, ok_l01Whole, ok_l01MulZ, ok_l01Around, ok_l07Back, ok_l01Both, trivial⟩ [(4, [(10, 0)]), (7, [(1, 0), (6, 0), (6, 1)])] (k := 4) (fn := Try.f69) rfl rfl rfl rfl rfl rfl ?_
  (repeat' ((try (conv => whnf)); first | (with_reducible first | refine And.intro ?_ ?_ | refine WX.of ?_ | exact VC.mk rfl | exact True.intro | exact VC.mk ⟨rfl, fun e => e⟩ | exact VC.mk ⟨fun e => e, rfl⟩ | exact VC.mk (Nat.le_refl _) | exact drawOk_i (by decide +kernel) (by decide +kernel) (by decide +kernel)) | ((with_reducible refine VC.mk ?_); first | (dsimp only; done) | omega | (congr 1; (try simp (disch := omega) only [w64]); omega) | exact ⟨rfl, rfl⟩ | (refine ⟨?_, ?_, ?_⟩; assumption; assumption; omega) | (refine ⟨Nat.le_trans (Nat.mul_le_mul_left _ (m := 1000) ?_) ?_, ?_⟩; decide; omega; omega)) | ((with_reducible refine VC.mk ?_); exact ⟨hk, hf⟩) | ((with_reducible refine VC.mk ?_); exact ⟨⟨h1, hel⟩, smF_ok hgg.2.2.1, hgg.2.2.2.1⟩) | ((with_reducible refine VC.mk ?_); exact ⟨smF_1 (by omega), (by assumption)⟩) | ((with_reducible refine VC.mk ?_); exact ⟨(by assumption), (by assumption)⟩) | ((with_reducible refine VC.mk ?_); exact ⟨h2, hb0, hs0, (by assumption)⟩) | ((with_reducible refine splitO (by first  |  exact okO_sb _ _  |  exact okO_db _ _ _  |  exact okO_mu _ _  |  exact okO_bk _ _ _ _) (fun h => ?_) (fun a b h hs => ?_)) <;> (try rw [h])) | ((with_reducible refine splitAr (fun h => ?_) (fun x1 x2 x3 x4 h hs hs' => ?_)) <;> (try rw [h])) | with_reducible refine splitT ?_ | with_reducible refine splitF ?_ | ((with_reducible refine splitB.mk (fun h => ?_) (fun h => ?_)) <;> (try simp only [decide_eq_true_eq, decide_eq_false_iff_not, ne_eq, Decidable.not_not, Int.not_lt, Int.not_le, Bool.not_eq_true', Bool.not_eq_false'] at h) <;> (try simp (disch := omega) only [w64] at h) <;> (try (exfalso; first | omega | exact h True.intro | (simp only [and_self, not_true_eq_false] at h; done) | (simp only [beq_self_eq_true, Bool.true_eq_false, reduceCtorEq] at h; done)))) | (with_reducible intro hz; (try exact absurd hz (Nat.succ_ne_zero _)))))
  all_goals (refine ⟨?_⟩; simp only [zv, Option.getD_some] at *; first | (simp [opO, z2S, z2, oS, oC, *]; done) | skip)
  simp only [z2, Option.getD_some, opO, Option.bind_some, z2S, *] at *
  rcases (bkO (gp, gq) (thAt (seg T t m) c).2.2 c.2.1 (x1, x2)).eq_none_or_eq_some with h5 | ⟨v, h5⟩ <;> rcases (bkO (gp, gq) (thAt (seg T t m) c).2.2 c.2.1 (x3, x4)).eq_none_or_eq_some with h6 | ⟨v', h6⟩ <;> simp [oC, oS, h5, h6]
theorem smF_ad (a b : FrT) : smF (tv (adO a b)).1 (tv (adO a b)).2 := smF_rO _ _
theorem db_sm (u : FrT) (vp : Int) (w : FrT) : smF (dbV u vp w).1 (dbV u vp w).2 := smF_rO _ _
attribute [local irreducible] rO sbO adO muO dvO bkO dbO arO opO dbV bkV bkB in
set_option maxHeartbeats 3200000 in
theorem ok_OpenSpanI : SpecOk Try.prog 34 s_open := by
  intro args S h; unfold s_open at h ⊢; (split at h <;> first | exact False.elim h | skip)
  dsimp only at h ⊢
  rename_i up uq s n x vp vb gp gq t m y i wp wq sp sq fp fq kp kq l wr T wT
  have hq := h
  have hM := seg_len h.2.1.1
  have hL := seg_len h.1.1
  cases hkk0 : (bnB up uq vp gp gq (seg l s n) (seg T t m) && shB m (i, (wp, wq), sp, sq) && (fOk fp fq && fOk kp kq)) with
  | false =>
    refine funW tabOk (E := [(64, s_rdgC)]) ⟨ok_readingsCode, trivial⟩ [(5, [(4, 0), (6, 0), (9, 0), (9, 1), (9, 2)]), (7, [(2, 1), (3, 1), (10, 0), (10, 1), (10, 3), (11, 0), (11, 1), (11, 3), (13, 0), (13, 1), (14, 0), (14, 1)])] (k := 2) (fn := Try.f34) rfl rfl rfl rfl rfl rfl ?_
    (repeat' ((try (conv => whnf)); first | (with_reducible first | refine And.intro ?_ ?_ | refine WX.of ?_ | exact VC.mk rfl | exact True.intro | exact VC.mk ⟨rfl, fun e => e⟩ | exact VC.mk ⟨fun e => e, rfl⟩ | exact VC.mk (Nat.le_refl _) | exact drawOk_i (by decide +kernel) (by decide +kernel) (by decide +kernel)) | ((with_reducible refine VC.mk ?_); first | (dsimp only; done) | omega | (congr 1; (try simp (disch := omega) only [w64]); omega) | exact ⟨rfl, rfl⟩ | (refine ⟨?_, ?_, ?_⟩; assumption; assumption; omega) | (refine ⟨Nat.le_trans (Nat.mul_le_mul_left _ (m := 1000) ?_) ?_, ?_⟩; decide; omega; omega)) | ((with_reducible refine VC.mk ?_); exact hq) | with_reducible refine splitT ?_ | with_reducible refine splitF ?_ | ((with_reducible refine splitB.mk (fun h => ?_) (fun h => ?_)) <;> (try simp only [decide_eq_true_eq, decide_eq_false_iff_not, ne_eq, Decidable.not_not, Int.not_lt, Int.not_le, Bool.not_eq_true', Bool.not_eq_false'] at h) <;> (try simp (disch := omega) only [w64] at h) <;> (try (exfalso; first | omega | exact h True.intro | (simp only [and_self, not_true_eq_false] at h; done) | (simp only [beq_self_eq_true, Bool.true_eq_false, reduceCtorEq] at h; done)))) | (with_reducible intro hz; (try exact absurd hz (Nat.succ_ne_zero _)))))
    · rw [hkk0]; exact ⟨by simp [okS]⟩
    all_goals (rw [hkk0] at h; simp at h)
  | true =>
    have hk2 := hkk0
    rw [Bool.and_eq_true, Bool.and_eq_true, Bool.and_eq_true] at hk2
    obtain ⟨⟨hb, hs0⟩, hf, hkk⟩ := hk2
    have hs := sh_at hs0
    have hgg := bn_g hb
    have hel := sc_el hgg.2.2.2.2
    have hd := smF_sb (kp, kq) (fp, fq)
    have hsf := bn_sf hb (k := i.toNat)
    have hw := wrN_sm hel (i := n) (by omega)
    have hdb := db_sm (up, uq) vp (wrN (seg l s n) n)
    have hmu := smF_mu (2, 1) (dbV (up, uq) vp (wrN (seg l s n) n))
    have hlo := smF_sb (tv (sbO (kp, kq) (fp, fq))) (tv (muO (2, 1) (dbV (up, uq) vp (wrN (seg l s n) n))))
    have hhi := smF_ad (tv (sbO (kp, kq) (fp, fq))) (tv (muO (2, 1) (dbV (up, uq) vp (wrN (seg l s n) n))))
    refine funW tabOk (E := [(64, s_rdgC), (26, s_num), (66, s_doubt), (54, s_mulO), (25, s_subO), (65, s_cold), (53, s_addO), (67, s_span)]) ⟨ok_readingsCode, ok_num, ok_doubt, ok_mulO, ok_subO, ok_cold, ok_addO, ok_span, trivial⟩ [(5, [(4, 0), (6, 0), (9, 0), (9, 1), (9, 2)]), (7, [(2, 1), (3, 1), (10, 0), (10, 1), (10, 3), (11, 0), (11, 1), (11, 3), (13, 0), (13, 1), (14, 0), (14, 1)])] (k := 2) (fn := Try.f34) rfl rfl rfl rfl rfl rfl ?_
    (repeat' ((try (conv => whnf)); first | (with_reducible first | refine And.intro ?_ ?_ | refine WX.of ?_ | exact VC.mk rfl | exact True.intro | exact VC.mk ⟨rfl, fun e => e⟩ | exact VC.mk ⟨fun e => e, rfl⟩ | exact VC.mk (Nat.le_refl _) | exact drawOk_i (by decide +kernel) (by decide +kernel) (by decide +kernel)) | ((with_reducible refine VC.mk ?_); first | (dsimp only; done) | omega | (congr 1; (try simp (disch := omega) only [w64]); omega) | exact ⟨rfl, rfl⟩ | (refine ⟨?_, ?_, ?_⟩; assumption; assumption; omega) | (refine ⟨Nat.le_trans (Nat.mul_le_mul_left _ (m := 1000) ?_) ?_, ?_⟩; decide; omega; omega)) | ((with_reducible refine VC.mk ?_); exact hq) | ((with_reducible refine VC.mk ?_); exact ⟨rfl, smF_ok hkk, smF_ok hf⟩) | ((with_reducible refine VC.mk ?_); exact ⟨rfl, ⟨hq.1, hel⟩, smF_ok hgg.2.2.1, hgg.2.2.2.1⟩) | ((with_reducible refine VC.mk ?_); exact ⟨rfl, smF_1 (by omega), hdb⟩) | ((with_reducible refine VC.mk ?_); exact ⟨rfl, hd, hmu⟩) | ((with_reducible refine VC.mk ?_); exact ⟨rfl, hq.2.1, hs.1, smF_ok hgg.1, smF_ok hs.2.1, hlo, hsf⟩) | ((with_reducible refine VC.mk ?_); exact ⟨rfl, hq.2.1, hs.1, smF_ok hgg.1, smF_ok hs.2.1, hhi, hsf⟩) | with_reducible refine splitT ?_ | with_reducible refine splitF ?_ | ((with_reducible refine splitB.mk (fun h => ?_) (fun h => ?_)) <;> (try simp only [decide_eq_true_eq, decide_eq_false_iff_not, ne_eq, Decidable.not_not, Int.not_lt, Int.not_le, Bool.not_eq_true', Bool.not_eq_false'] at h) <;> (try simp (disch := omega) only [w64] at h) <;> (try (exfalso; first | omega | exact h True.intro | (simp only [and_self, not_true_eq_false] at h; done) | (simp only [beq_self_eq_true, Bool.true_eq_false, reduceCtorEq] at h; done)))) | (with_reducible intro hz; (try exact absurd hz (Nat.succ_ne_zero _)))))
    · rw [hkk0] at h; simp at h
    · have ho := op_e (sbO (kp, kq) (fp, fq)) (dbO (up, uq) vp (wrN (seg l s n) n)) (tv (sbO (kp, kq) (fp, fq))) (dbV (up, uq) vp (wrN (seg l s n) n)) (gp, gq) (thAt (seg T t m) (i, (wp, wq), sp, sq)).2.2 (wp, wq) (fun v hv => by rw [hv]; rfl) (db_e _ _ _).2
      have hO : opT (up, uq) (seg l s n) vp (gp, gq) (seg T t m) (i, (wp, wq), sp, sq) (fp, fq) (kp, kq) = opO (sbO (kp, kq) (fp, fq)) (dbO (up, uq) vp (wrN (seg l s n) n)) (gp, gq) (thAt (seg T t m) (i, (wp, wq), sp, sq)).2.2 (wp, wq) := by unfold opT; rw [hL]
      refine ⟨?_⟩
      rw [hO]
      dsimp only
      simp only [pr_eta, Bool.false_or]
      rw [ho.1]
      have h2 := ho.2
      rcases (opO (sbO (kp, kq) (fp, fq)) (dbO (up, uq) vp (wrN (seg l s n) n)) (gp, gq) (thAt (seg T t m) (i, (wp, wq), sp, sq)).2.2 (wp, wq)).eq_none_or_eq_some with e | ⟨v, e⟩
      · simp [okS, oS, e]
      · have h3 := h2 v e
        subst h3
        simp [okS, oS, z2, opV, e]
def s_eqSpan : Spec := fun args S => match args, S with
  | [.agg [.int .i64 p, .int .i64 q, .int .i64 r, .int .i64 s], .agg [.int .i64 p', .int .i64 q', .int .i64 r', .int .i64 s']], [] => ⟨True, .bool ((decide (p = p') && decide (q = q')) && (decide (r = r') && decide (s = s'))), []⟩
  | _, _ => noSpec
end Go.Proofs.Ytbmejhabgoimeaa.Eng
