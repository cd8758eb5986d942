/- opens2: lemmas for the proof, no conditions of their own. -/
import Derived.Test.YtabmmdfhhpajgaaXopens
set_option linter.unusedVariables false
set_option linter.unusedSimpArgs false
namespace Go.Proofs.Ytabmmdfhhpajgaa.Eng
open Go Go.RowKit
set_option maxRecDepth 100000
def OkO (o : Option FrT) : Prop := ∀ v, o = some v → fOk v.1 v.2 = true
theorem okO_sb (a b : FrT) : OkO (sbO a b) := fun _ h => rO_f h
theorem okO_ad (a b : FrT) : OkO (adO a b) := fun _ h => rO_f h
theorem okO_mu (a b : FrT) : OkO (muO a b) := fun _ h => rO_f h
theorem okO_dv (a b : FrT) : OkO (dvO a b) := fun _ h => dv_f h
theorem okO_bind {α : Type} (o : Option α) (f : α → Option FrT) (h : ∀ x, OkO (f x)) : OkO (o.bind f) := fun v hv => by
  cases o with
  | none => simp at hv
  | some x => exact h x v hv
theorem okO_db (u : FrT) (vp : Int) (w : FrT) : OkO (dbO u vp w) := okO_bind _ _ fun _ => okO_bind _ _ fun _ => okO_ad _ _
theorem okO_bk (g1 g2 w a : FrT) : OkO (bkO g1 g2 w a) := okO_bind _ _ fun _ => okO_bind _ _ fun _ => okO_bind _ _ fun _ => okO_dv _ _
theorem splitO {o : Option FrT} {A B : Prop} (hf : OkO o) (h1 : o = none → A) (h2 : ∀ a b, o = some (a, b) → smF a b → B) : splitB (decide (oC o ≠ 0)) A B := by
  cases o with
  | none => exact ⟨fun _ => h1 rfl, fun e => by simp [oC] at e⟩
  | some v => exact ⟨fun e => by simp [oC] at e, fun _ => h2 v.1 v.2 rfl (smF_ok (hf v rfl))⟩
theorem splitAr {x y : FrT} {A B : Prop} (h1 : arO x y = none → A) (h2 : ∀ a b c d, arO x y = some ((a, b), (c, d)) → smF a b → smF c d → B) : splitB (decide (oS (arO x y) ≠ 0)) A B := by
  cases h : arO x y with
  | none => exact ⟨fun _ => h1 h, fun e => by simp [oS] at e⟩
  | some v => exact ⟨fun e => by simp [oS] at e, fun _ => h2 v.1.1 v.1.2 v.2.1 v.2.2 h (smF_ok (ar_f h).1) (smF_ok (ar_f h).2)⟩
def okS (ok : Bool) (o : Option (FrT × FrT)) : Int := if ok = true then oS o else 1
def s_open : Spec := fun args S => match args, S with
  | [.agg [.int .i64 up, .int .i64 uq, .sl 0 s n x, .int .i64 vp, .bool vb, .int .i64 gp, .int .i64 gq, .sl 1 t m y], .agg [.int .i64 i, .int .i64 wp, .int .i64 wq, .int .i64 sp, .int .i64 sq], .agg [.int .i64 fp, .int .i64 fq], .agg [.int .i64 kp, .int .i64 kq]], [.arr (.prod (.int .i64) (.int .i64)) l 2 wr, .arr (.prod .str (.prod (.prod (.int .i64) (.int .i64)) (.prod (.int .i64) (.int .i64)))) T 5 wT] => ⟨(s + n ≤ l.length ∧ n ≤ 1048576) ∧ (t + m ≤ T.length ∧ m ≤ 1048576) ∧ ∀ (j : Nat) (a : ThT), T[j]? = some a → a.1.length < 4611686018427387904, .tup [.agg [.int .i64 (if okS (bnB up uq vp gp gq (seg l s n) (seg T t m) && shB m (i, (wp, wq), sp, sq) && (fOk fp fq && fOk kp kq)) (opT (up, uq) (seg l s n) vp (gp, gq) (seg T t m) (i, (wp, wq), sp, sq) (fp, fq) (kp, kq)) = 0 then (z2 (opT (up, uq) (seg l s n) vp (gp, gq) (seg T t m) (i, (wp, wq), sp, sq) (fp, fq) (kp, kq))).1.1 else 0), .int .i64 (if okS (bnB up uq vp gp gq (seg l s n) (seg T t m) && shB m (i, (wp, wq), sp, sq) && (fOk fp fq && fOk kp kq)) (opT (up, uq) (seg l s n) vp (gp, gq) (seg T t m) (i, (wp, wq), sp, sq) (fp, fq) (kp, kq)) = 0 then (z2 (opT (up, uq) (seg l s n) vp (gp, gq) (seg T t m) (i, (wp, wq), sp, sq) (fp, fq) (kp, kq))).1.2 else 0), .int .i64 (if okS (bnB up uq vp gp gq (seg l s n) (seg T t m) && shB m (i, (wp, wq), sp, sq) && (fOk fp fq && fOk kp kq)) (opT (up, uq) (seg l s n) vp (gp, gq) (seg T t m) (i, (wp, wq), sp, sq) (fp, fq) (kp, kq)) = 0 then (z2 (opT (up, uq) (seg l s n) vp (gp, gq) (seg T t m) (i, (wp, wq), sp, sq) (fp, fq) (kp, kq))).2.1 else 0), .int .i64 (if okS (bnB up uq vp gp gq (seg l s n) (seg T t m) && shB m (i, (wp, wq), sp, sq) && (fOk fp fq && fOk kp kq)) (opT (up, uq) (seg l s n) vp (gp, gq) (seg T t m) (i, (wp, wq), sp, sq) (fp, fq) (kp, kq)) = 0 then (z2 (opT (up, uq) (seg l s n) vp (gp, gq) (seg T t m) (i, (wp, wq), sp, sq) (fp, fq) (kp, kq))).2.2 else 0)], .int .i64 (okS (bnB up uq vp gp gq (seg l s n) (seg T t m) && shB m (i, (wp, wq), sp, sq) && (fOk fp fq && fOk kp kq)) (opT (up, uq) (seg l s n) vp (gp, gq) (seg T t m) (i, (wp, wq), sp, sq) (fp, fq) (kp, kq)))], [.arr (.prod (.int .i64) (.int .i64)) l 2 wr, .arr (.prod .str (.prod (.prod (.int .i64) (.int .i64)) (.prod (.int .i64) (.int .i64)))) T 5 wT]⟩
  | _, _ => noSpec
def z2S (o : Option (FrT × FrT)) : SV := .agg [.int .i64 (z2 o).1.1, .int .i64 (z2 o).1.2, .int .i64 (z2 o).2.1, .int .i64 (z2 o).2.2]
def s_l07Open : Spec := fun args S => match args, S with
  | [.ptr 0 0 0, .ptr 1 0 0, .agg [.int .i64 fp, .int .i64 fq], .agg [.int .i64 kp, .int .i64 kq]], [.box [.int .i64 up, .int .i64 uq, .sl 2 s n x, .int .i64 vp, .bool vb, .int .i64 gp, .int .i64 gq, .sl 3 t m y] true false, .arr (.prod (.int .i64) (.prod (.prod (.int .i64) (.int .i64)) (.prod (.int .i64) (.int .i64)))) [c] 0 true, .arr (.prod (.int .i64) (.int .i64)) l 2 wr, .arr (.prod .str (.prod (.prod (.int .i64) (.int .i64)) (.prod (.int .i64) (.int .i64)))) T 5 wT] => ⟨((s + n ≤ l.length ∧ n ≤ 1048576) ∧ t + m ≤ T.length ∧ m ≤ 1048576) ∧ bnB up uq vp gp gq (seg l s n) (seg T t m) = true ∧ shB m c = true ∧ smF fp fq ∧ smF kp kq, .tup [z2S (opT (up, uq) (seg l s n) vp (gp, gq) (seg T t m) c (fp, fq) (kp, kq)), .int .i64 (oS (opT (up, uq) (seg l s n) vp (gp, gq) (seg T t m) c (fp, fq) (kp, kq)))], [.box [.int .i64 up, .int .i64 uq, .sl 2 s n x, .int .i64 vp, .bool vb, .int .i64 gp, .int .i64 gq, .sl 3 t m y] true false, .arr (.prod (.int .i64) (.prod (.prod (.int .i64) (.int .i64)) (.prod (.int .i64) (.int .i64)))) [c] 0 true, .arr (.prod (.int .i64) (.int .i64)) l 2 wr, .arr (.prod .str (.prod (.prod (.int .i64) (.int .i64)) (.prod (.int .i64) (.int .i64)))) T 5 wT]⟩
  | _, _ => noSpec
attribute [local irreducible] rO sbO adO muO dvO bkO dbO arO opO in
set_option maxHeartbeats 1600000 in
theorem ok_l07Open : SpecOk Try.prog 77 s_l07Open := by
  intro args S h; unfold s_l07Open at h ⊢; (split at h <;> first | exact False.elim h | skip)
  dsimp only at h ⊢
  rename_i fp fq kp kq up uq s n x vp vb gp gq t m y c l wr T wT
  obtain ⟨⟨h1, h2⟩, hb0, hs0, hf, hk⟩ := h
  have hL := seg_len h1.1
  have hgg := bn_g hb0
  have hel := sc_el hgg.2.2.2.2
  have hO : opT (up, uq) (seg l s n) vp (gp, gq) (seg T t m) c (fp, fq) (kp, kq) = opO (sbO (kp, kq) (fp, fq)) (dbO (up, uq) vp (wrN (seg l s n) n)) (gp, gq) (thAt (seg T t m) c).2.2 c.2.1 := by unfold opT; rw [hL]
  rw [hO]
  refine funW tabOk (E := [(109, s_subZ), (112, s_l02Open), (113, s_num), (106, s_mulZ), (114, s_around), (110, s_l07Back), (115, s_both)]) ⟨ok_l01SubZ, ok_l02Open, ok_l01Whole, ok_l01MulZ, ok_l01Around, ok_l07Back, ok_l01Both, trivial⟩ [(4, [(10, 0)]), (7, [(1, 0), (6, 0), (6, 1)])] (k := 4) (fn := Try.f77) rfl rfl rfl rfl rfl rfl ?_
  (repeat' ((try (conv => whnf)); first | (with_reducible first | refine And.intro ?_ ?_ | refine WX.of ?_ | exact VC.mk rfl | exact True.intro | exact VC.mk ⟨rfl, fun e => e⟩ | exact VC.mk ⟨fun e => e, rfl⟩ | exact VC.mk (Nat.le_refl _) | exact drawOk_i (by decide +kernel) (by decide +kernel) (by decide +kernel)) | ((with_reducible refine VC.mk ?_); first | (dsimp only; done) | omega | (congr 1; (try simp (disch := omega) only [w64]); omega) | exact ⟨rfl, rfl⟩ | (refine ⟨?_, ?_, ?_⟩; assumption; assumption; omega) | (refine ⟨Nat.le_trans (Nat.mul_le_mul_left _ (m := 1000) ?_) ?_, ?_⟩; decide; omega; omega)) | ((with_reducible refine VC.mk ?_); exact ⟨hk, hf⟩) | ((with_reducible refine VC.mk ?_); exact ⟨⟨h1, hel⟩, smF_ok hgg.2.2.1, hgg.2.2.2.1⟩) | ((with_reducible refine VC.mk ?_); exact ⟨smF_1 (by omega), (by assumption)⟩) | ((with_reducible refine VC.mk ?_); exact ⟨(by assumption), (by assumption)⟩) | ((with_reducible refine VC.mk ?_); exact ⟨h2, hb0, hs0, (by assumption)⟩) | ((with_reducible refine splitO (by first  |  exact okO_sb _ _  |  exact okO_db _ _ _  |  exact okO_mu _ _  |  exact okO_bk _ _ _ _) (fun h => ?_) (fun a b h hs => ?_)) <;> (try rw [h])) | ((with_reducible refine splitAr (fun h => ?_) (fun x1 x2 x3 x4 h hs hs' => ?_)) <;> (try rw [h])) | with_reducible refine splitT ?_ | with_reducible refine splitF ?_ | ((with_reducible refine splitB.mk (fun h => ?_) (fun h => ?_)) <;> (try simp only [decide_eq_true_eq, decide_eq_false_iff_not, ne_eq, Decidable.not_not, Int.not_lt, Int.not_le, Bool.not_eq_true', Bool.not_eq_false'] at h) <;> (try simp (disch := omega) only [w64] at h) <;> (try (exfalso; first | omega | exact h True.intro | (simp only [and_self, not_true_eq_false] at h; done) | (simp only [beq_self_eq_true, Bool.true_eq_false, reduceCtorEq] at h; done)))) | (with_reducible intro hz; (try exact absurd hz (Nat.succ_ne_zero _)))))
  all_goals (refine ⟨?_⟩; simp only [zv, Option.getD_some] at *; first | (simp [opO, z2S, z2, oS, oC, *]; done) | skip)
  simp only [z2, Option.getD_some, opO, Option.bind_some, z2S, *] at *
  rcases (bkO (gp, gq) (thAt (seg T t m) c).2.2 c.2.1 (x1, x2)).eq_none_or_eq_some with h5 | ⟨v, h5⟩ <;> rcases (bkO (gp, gq) (thAt (seg T t m) c).2.2 c.2.1 (x3, x4)).eq_none_or_eq_some with h6 | ⟨v', h6⟩ <;> simp [oC, oS, h5, h6]
set_option maxHeartbeats 1600000 in
theorem ok_OpenSpanS : SpecOk Try.prog 29 s_open := by
  intro args S h; unfold s_open at h ⊢; (split at h <;> first | exact False.elim h | skip)
  dsimp only at h ⊢
  rename_i up uq s n x vp vb gp gq t m y i wp wq sp sq fp fq kp kq l wr T wT
  have hq := h
  refine funW tabOk (E := [(71, s_given), (77, s_l07Open)]) ⟨ok_l07Given, ok_l07Open, trivial⟩ [] (k := 2) (fn := Try.f29) rfl rfl rfl rfl rfl rfl ?_
  (repeat' ((try (conv => whnf)); first | (with_reducible first | refine And.intro ?_ ?_ | refine WX.of ?_ | exact VC.mk rfl | exact True.intro | exact VC.mk ⟨rfl, fun e => e⟩ | exact VC.mk ⟨fun e => e, rfl⟩ | exact VC.mk (Nat.le_refl _) | exact drawOk_i (by decide +kernel) (by decide +kernel) (by decide +kernel)) | ((with_reducible refine VC.mk ?_); first | (dsimp only; done) | omega | (congr 1; (try simp (disch := omega) only [w64]); omega) | exact ⟨rfl, rfl⟩ | (refine ⟨?_, ?_, ?_⟩; assumption; assumption; omega) | (refine ⟨Nat.le_trans (Nat.mul_le_mul_left _ (m := 1000) ?_) ?_, ?_⟩; decide; omega; omega)) | ((with_reducible refine VC.mk ?_); exact hq) | with_reducible refine splitT ?_ | with_reducible refine splitF ?_ | ((with_reducible refine splitB.mk (fun h => ?_) (fun h => ?_)) <;> (try simp only [decide_eq_true_eq, decide_eq_false_iff_not, ne_eq, Decidable.not_not, Int.not_lt, Int.not_le, Bool.not_eq_true', Bool.not_eq_false'] at h) <;> (try simp (disch := omega) only [w64] at h) <;> (try (exfalso; first | omega | exact h True.intro | (simp only [and_self, not_true_eq_false] at h; done) | (simp only [beq_self_eq_true, Bool.true_eq_false, reduceCtorEq] at h; done)))) | (with_reducible intro hz; (try exact absurd hz (Nat.succ_ne_zero _)))))
  · exact ⟨by rw [h]; simp [okS]⟩
  · simp only [Bool.and_eq_true] at h
    exact ⟨⟨⟨hq.1, hq.2.1⟩, h.1.1, h.1.2, smF_ok h.2.1, smF_ok h.2.2⟩⟩
  · refine ⟨?_⟩
    rw [h]
    rcases (opT (up, uq) (seg l s n) vp (gp, gq) (seg T t m) (i, (wp, wq), sp, sq) (fp, fq) (kp, kq)).eq_none_or_eq_some with e | ⟨v, e⟩ <;> simp [okS, oS, z2, e]
theorem smF_ad (a b : FrT) : smF (tv (adO a b)).1 (tv (adO a b)).2 := smF_rO _ _
theorem db_sm (u : FrT) (vp : Int) (w : FrT) : smF (dbV u vp w).1 (dbV u vp w).2 := smF_rO _ _
attribute [local irreducible] rO sbO adO muO dvO bkO dbO arO opO dbV bkV bkB in
set_option maxHeartbeats 3200000 in
theorem ok_OpenSpanI : SpecOk Try.prog 30 s_open := by
  intro args S h; unfold s_open at h ⊢; (split at h <;> first | exact False.elim h | skip)
  dsimp only at h ⊢
  rename_i up uq s n x vp vb gp gq t m y i wp wq sp sq fp fq kp kq l wr T wT
  have hq := h
  have hM := seg_len h.2.1.1
  have hL := seg_len h.1.1
  cases hkk0 : (bnB up uq vp gp gq (seg l s n) (seg T t m) && shB m (i, (wp, wq), sp, sq) && (fOk fp fq && fOk kp kq)) with
  | false =>
    refine funW tabOk (E := [(73, s_rdgC)]) ⟨ok_readingsCode, trivial⟩ [(5, [(4, 0), (6, 0), (9, 0), (9, 1), (9, 2)]), (7, [(2, 1), (3, 1), (10, 0), (10, 1), (10, 3), (11, 0), (11, 1), (11, 3), (13, 0), (13, 1), (14, 0), (14, 1)])] (k := 2) (fn := Try.f30) rfl rfl rfl rfl rfl rfl ?_
    (repeat' ((try (conv => whnf)); first | (with_reducible first | refine And.intro ?_ ?_ | refine WX.of ?_ | exact VC.mk rfl | exact True.intro | exact VC.mk ⟨rfl, fun e => e⟩ | exact VC.mk ⟨fun e => e, rfl⟩ | exact VC.mk (Nat.le_refl _) | exact drawOk_i (by decide +kernel) (by decide +kernel) (by decide +kernel)) | ((with_reducible refine VC.mk ?_); first | (dsimp only; done) | omega | (congr 1; (try simp (disch := omega) only [w64]); omega) | exact ⟨rfl, rfl⟩ | (refine ⟨?_, ?_, ?_⟩; assumption; assumption; omega) | (refine ⟨Nat.le_trans (Nat.mul_le_mul_left _ (m := 1000) ?_) ?_, ?_⟩; decide; omega; omega)) | ((with_reducible refine VC.mk ?_); exact hq) | with_reducible refine splitT ?_ | with_reducible refine splitF ?_ | ((with_reducible refine splitB.mk (fun h => ?_) (fun h => ?_)) <;> (try simp only [decide_eq_true_eq, decide_eq_false_iff_not, ne_eq, Decidable.not_not, Int.not_lt, Int.not_le, Bool.not_eq_true', Bool.not_eq_false'] at h) <;> (try simp (disch := omega) only [w64] at h) <;> (try (exfalso; first | omega | exact h True.intro | (simp only [and_self, not_true_eq_false] at h; done) | (simp only [beq_self_eq_true, Bool.true_eq_false, reduceCtorEq] at h; done)))) | (with_reducible intro hz; (try exact absurd hz (Nat.succ_ne_zero _)))))
    · rw [hkk0]; exact ⟨by simp [okS]⟩
    all_goals (rw [hkk0] at h; simp at h)
  | true =>
    have hk2 := hkk0
    rw [Bool.and_eq_true, Bool.and_eq_true, Bool.and_eq_true] at hk2
    obtain ⟨⟨hb, hs0⟩, hf, hkk⟩ := hk2
    have hs := sh_at hs0
    have hgg := bn_g hb
    have hel := sc_el hgg.2.2.2.2
    have hd := smF_sb (kp, kq) (fp, fq)
    have hsf := bn_sf hb (k := i.toNat)
    have hw := wrN_sm hel (i := n) (by omega)
    have hdb := db_sm (up, uq) vp (wrN (seg l s n) n)
    have hmu := smF_mu (2, 1) (dbV (up, uq) vp (wrN (seg l s n) n))
    have hlo := smF_sb (tv (sbO (kp, kq) (fp, fq))) (tv (muO (2, 1) (dbV (up, uq) vp (wrN (seg l s n) n))))
    have hhi := smF_ad (tv (sbO (kp, kq) (fp, fq))) (tv (muO (2, 1) (dbV (up, uq) vp (wrN (seg l s n) n))))
    refine funW tabOk (E := [(73, s_rdgC), (57, s_num), (78, s_doubt), (69, s_mulO), (76, s_subO), (75, s_cold), (68, s_addO), (79, s_span)]) ⟨ok_readingsCode, ok_num, ok_doubt, ok_mulO, ok_subO, ok_cold, ok_addO, ok_span, trivial⟩ [(5, [(4, 0), (6, 0), (9, 0), (9, 1), (9, 2)]), (7, [(2, 1), (3, 1), (10, 0), (10, 1), (10, 3), (11, 0), (11, 1), (11, 3), (13, 0), (13, 1), (14, 0), (14, 1)])] (k := 2) (fn := Try.f30) rfl rfl rfl rfl rfl rfl ?_
    (repeat' ((try (conv => whnf)); first | (with_reducible first | refine And.intro ?_ ?_ | refine WX.of ?_ | exact VC.mk rfl | exact True.intro | exact VC.mk ⟨rfl, fun e => e⟩ | exact VC.mk ⟨fun e => e, rfl⟩ | exact VC.mk (Nat.le_refl _) | exact drawOk_i (by decide +kernel) (by decide +kernel) (by decide +kernel)) | ((with_reducible refine VC.mk ?_); first | (dsimp only; done) | omega | (congr 1; (try simp (disch := omega) only [w64]); omega) | exact ⟨rfl, rfl⟩ | (refine ⟨?_, ?_, ?_⟩; assumption; assumption; omega) | (refine ⟨Nat.le_trans (Nat.mul_le_mul_left _ (m := 1000) ?_) ?_, ?_⟩; decide; omega; omega)) | ((with_reducible refine VC.mk ?_); exact hq) | ((with_reducible refine VC.mk ?_); exact ⟨rfl, smF_ok hkk, smF_ok hf⟩) | ((with_reducible refine VC.mk ?_); exact ⟨rfl, ⟨hq.1, hel⟩, smF_ok hgg.2.2.1, hgg.2.2.2.1⟩) | ((with_reducible refine VC.mk ?_); exact ⟨rfl, smF_1 (by omega), hdb⟩) | ((with_reducible refine VC.mk ?_); exact ⟨rfl, hd, hmu⟩) | ((with_reducible refine VC.mk ?_); exact ⟨rfl, hq.2.1, hs.1, smF_ok hgg.1, smF_ok hs.2.1, hlo, hsf⟩) | ((with_reducible refine VC.mk ?_); exact ⟨rfl, hq.2.1, hs.1, smF_ok hgg.1, smF_ok hs.2.1, hhi, hsf⟩) | with_reducible refine splitT ?_ | with_reducible refine splitF ?_ | ((with_reducible refine splitB.mk (fun h => ?_) (fun h => ?_)) <;> (try simp only [decide_eq_true_eq, decide_eq_false_iff_not, ne_eq, Decidable.not_not, Int.not_lt, Int.not_le, Bool.not_eq_true', Bool.not_eq_false'] at h) <;> (try simp (disch := omega) only [w64] at h) <;> (try (exfalso; first | omega | exact h True.intro | (simp only [and_self, not_true_eq_false] at h; done) | (simp only [beq_self_eq_true, Bool.true_eq_false, reduceCtorEq] at h; done)))) | (with_reducible intro hz; (try exact absurd hz (Nat.succ_ne_zero _)))))
    · rw [hkk0] at h; simp at h
    · have ho := op_e (sbO (kp, kq) (fp, fq)) (dbO (up, uq) vp (wrN (seg l s n) n)) (tv (sbO (kp, kq) (fp, fq))) (dbV (up, uq) vp (wrN (seg l s n) n)) (gp, gq) (thAt (seg T t m) (i, (wp, wq), sp, sq)).2.2 (wp, wq) (fun v hv => by rw [hv]; rfl) (db_e _ _ _).2
      have hO : opT (up, uq) (seg l s n) vp (gp, gq) (seg T t m) (i, (wp, wq), sp, sq) (fp, fq) (kp, kq) = opO (sbO (kp, kq) (fp, fq)) (dbO (up, uq) vp (wrN (seg l s n) n)) (gp, gq) (thAt (seg T t m) (i, (wp, wq), sp, sq)).2.2 (wp, wq) := by unfold opT; rw [hL]
      refine ⟨?_⟩
      rw [hO]
      dsimp only
      simp only [pr_eta, Bool.false_or]
      rw [ho.1]
      have h2 := ho.2
      rcases (opO (sbO (kp, kq) (fp, fq)) (dbO (up, uq) vp (wrN (seg l s n) n)) (gp, gq) (thAt (seg T t m) (i, (wp, wq), sp, sq)).2.2 (wp, wq)).eq_none_or_eq_some with e | ⟨v, e⟩
      · simp [okS, oS, e]
      · have h3 := h2 v e
        subst h3
        simp [okS, oS, z2, opV, e]
def s_eqSpan : Spec := fun args S => match args, S with
  | [.agg [.int .i64 p, .int .i64 q, .int .i64 r, .int .i64 s], .agg [.int .i64 p', .int .i64 q', .int .i64 r', .int .i64 s']], [] => ⟨True, .bool ((decide (p = p') && decide (q = q')) && (decide (r = r') && decide (s = s'))), []⟩
  | _, _ => noSpec
theorem ok_eqSpan : SpecOk Try.prog 31 s_eqSpan := by
  intro args S h; unfold s_eqSpan at h ⊢; (split at h <;> first | exact False.elim h | skip)
  dsimp only at h ⊢
  refine funW tabOk (E := [(25, s_eqFrac)]) ⟨ok_eqFrac, trivial⟩ [] (k := 0) (fn := Try.f31) rfl rfl rfl rfl rfl rfl ?_
  (repeat' ((try (conv => whnf)); first | (with_reducible first | refine And.intro ?_ ?_ | refine WX.of ?_ | exact VC.mk rfl | exact True.intro | exact VC.mk ⟨rfl, fun e => e⟩ | exact VC.mk ⟨fun e => e, rfl⟩ | exact VC.mk (Nat.le_refl _) | exact drawOk_i (by decide +kernel) (by decide +kernel) (by decide +kernel)) | ((with_reducible refine VC.mk ?_); first | (dsimp only; done) | omega | (congr 1; (try simp (disch := omega) only [w64]); omega) | exact ⟨rfl, rfl⟩ | (refine ⟨?_, ?_, ?_⟩; assumption; assumption; omega) | (refine ⟨Nat.le_trans (Nat.mul_le_mul_left _ (m := 1000) ?_) ?_, ?_⟩; decide; omega; omega)) | with_reducible refine splitT ?_ | with_reducible refine splitF ?_ | ((with_reducible refine splitB.mk (fun h => ?_) (fun h => ?_)) <;> (try simp only [decide_eq_true_eq, decide_eq_false_iff_not, ne_eq, Decidable.not_not, Int.not_lt, Int.not_le, Bool.not_eq_true', Bool.not_eq_false'] at h) <;> (try simp (disch := omega) only [w64] at h) <;> (try (exfalso; first | omega | exact h True.intro | (simp only [and_self, not_true_eq_false] at h; done) | (simp only [beq_self_eq_true, Bool.true_eq_false, reduceCtorEq] at h; done)))) | (with_reducible intro hz; (try exact absurd hz (Nat.succ_ne_zero _)))))
  all_goals (refine ⟨?_⟩; simp_all)
set_option maxHeartbeats 1600000 in
theorem law_openSpan {y1 : Int × Int} (ho1 : ET.Ok (.prod (.int .i64) (.int .i64)) y1) {c2 : Bool} {n2 : Nat} {l2 : List (Int × Int)} (hn2 : n2 ≤ l2.length) (hc2 : c2 = true → l2 = []) (ho2 : ∀ y ∈ l2, ET.Ok (.prod (.int .i64) (.int .i64)) y) (hz2 : l2.length ≤ 9223372036854775807) {y3 : Int × Bool} (ho3 : ET.Ok (.prod (.int .i64) .bool) y3) {y4 : Int × Int} (ho4 : ET.Ok (.prod (.int .i64) (.int .i64)) y4) {c5 : Bool} {n5 : Nat} {l5 : List ThT} (hn5 : n5 ≤ l5.length) (hc5 : c5 = true → l5 = []) (ho5 : ∀ y ∈ l5, ET.Ok (.prod .str (.prod (.prod (.int .i64) (.int .i64)) (.prod (.int .i64) (.int .i64)))) y) (hz5 : l5.length ≤ 9223372036854775807) {y6 : Int × (Int × Int) × (Int × Int)} (ho6 : ET.Ok (.prod (.int .i64) (.prod (.prod (.int .i64) (.int .i64)) (.prod (.int .i64) (.int .i64)))) y6) {y7 y8 : Int × Int} (ho7 : ET.Ok (.prod (.int .i64) (.int .i64)) y7) (ho8 : ET.Ok (.prod (.int .i64) (.int .i64)) y8) : RunsS Try.prog 9 [.agg [.int .i64 y1.1, .int .i64 y1.2, .opt c2 0 n2 0, .int .i64 y3.1, .bool y3.2, .int .i64 y4.1, .int .i64 y4.2, .opt c5 1 n5 0], .agg (ET.enc (.prod (.int .i64) (.prod (.prod (.int .i64) (.int .i64)) (.prod (.int .i64) (.int .i64)))) y6), .agg (ET.enc (.prod (.int .i64) (.int .i64)) y7), .agg (ET.enc (.prod (.int .i64) (.int .i64)) y8)] [.arrO (.prod (.int .i64) (.int .i64)) l2 2, .arrO (.prod .str (.prod (.prod (.int .i64) (.int .i64)) (.prod (.int .i64) (.int .i64)))) l5 5] (.bool true) [.arrO (.prod (.int .i64) (.int .i64)) l2 2, .arrO (.prod .str (.prod (.prod (.int .i64) (.int .i64)) (.prod (.int .i64) (.int .i64)))) l5 5] := by
  have hL : (seg l2 0 n2).length = n2 := seg_len (by omega)
  have hM : (seg l5 0 n5).length = n5 := seg_len (by omega)
  have hb5 : ∀ (j : Nat) (a : ThT), l5[j]? = some a → a.1.length ≤ 9223372036854775807 := fun j a ha => (ho5 a (List.mem_of_getElem? ha)).1
  have hS : seg (seg l2 0 n2) 0 n2 = seg l2 0 n2 := seg_full hL
  have hT : seg (seg l5 0 n5) 0 n5 = seg l5 0 n5 := seg_full hM
  have htt : ∀ (j : Nat) (a : ThT), (seg l5 0 n5)[j]? = some a → a.1.length ≤ tot (fun a : ThT => a.1.length) (seg l5 0 n5) := fun j a ha => tot_at (f := fun a : ThT => a.1.length) ha
  refine funW tabOk (E := [(11, s_szBench), (13, s_toBench), (19, s_toShot), (27, s_toFrac), (29, s_open), (30, s_open), (15, s_eqBench), (31, s_eqSpan)]) ⟨ok_szBench, ok_toBench, ok_toShot, ok_toFrac, ok_OpenSpanS, ok_OpenSpanI, ok_eqBench, ok_eqSpan, trivial⟩ [(5, [(2, 0), (4, 0), (4, 1), (6, 0), (6, 1), (6, 2), (12, 0), (12, 1), (12, 2), (12, 3), (12, 4)]), (7, [(0, 1), (0, 2), (0, 3), (3, 0), (5, 0), (5, 1), (11, 0), (11, 1), (11, 2), (11, 3)]), (10, [(0, 1)])] (k := 2) (fn := Try.f9) rfl rfl rfl rfl rfl rfl ?_
  (repeat' ((try (conv => whnf)); first | (with_reducible first | refine And.intro ?_ ?_ | refine WX.of ?_ | exact VC.mk rfl | exact True.intro | exact VC.mk ⟨rfl, fun e => e⟩ | exact VC.mk ⟨fun e => e, rfl⟩ | exact VC.mk (Nat.le_refl _) | exact drawOk_i (by decide +kernel) (by decide +kernel) (by decide +kernel)) | ((with_reducible refine VC.mk ?_); first | (dsimp only; done) | omega | (congr 1; (try simp (disch := omega) only [w64]); omega) | exact ⟨rfl, rfl⟩ | (refine ⟨?_, ?_, ?_⟩; assumption; assumption; omega) | (refine ⟨Nat.le_trans (Nat.mul_le_mul_left _ (m := 1000) ?_) ?_, ?_⟩; decide; omega; omega)) | ((with_reducible refine VC.mk ?_); (refine ⟨?_, ?_, ⟨?_, ?_⟩, ?_, ?_⟩); (omega); (omega); (assumption); (assumption); (omega); (assumption)) | ((with_reducible refine VC.mk ?_); (refine ⟨⟨?_, ?_, ?_⟩, ?_, ?_, ?_⟩); all_goals (try assumption); all_goals omega) | ((with_reducible refine VC.mk ?_); (refine ⟨⟨?_, ?_⟩, ⟨?_, ?_⟩, ?_⟩); (omega); (omega); (omega); (omega); (intro j a ha; have := htt j a ha; omega)) | with_reducible refine splitT ?_ | with_reducible refine splitF ?_ | ((with_reducible refine splitB.mk (fun h => ?_) (fun h => ?_)) <;> (try simp only [decide_eq_true_eq, decide_eq_false_iff_not, ne_eq, Decidable.not_not, Int.not_lt, Int.not_le, Bool.not_eq_true', Bool.not_eq_false'] at h) <;> (try simp (disch := omega) only [w64] at h) <;> (try (exfalso; first | omega | exact h True.intro | (simp only [and_self, not_true_eq_false] at h; done) | (simp only [beq_self_eq_true, Bool.true_eq_false, reduceCtorEq] at h; done)))) | (with_reducible intro hz; (try exact absurd hz (Nat.succ_ne_zero _)))))
  all_goals (simp at h)
end Go.Proofs.Ytabmmdfhhpajgaa.Eng
