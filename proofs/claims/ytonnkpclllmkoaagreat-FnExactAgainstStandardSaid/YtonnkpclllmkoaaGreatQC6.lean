/- Lemmas for the proof, no conditions of their own. -/
import Derived.Test.YtonnkpclllmkoaaGreatQC5
set_option linter.unusedVariables false
set_option linter.unusedSimpArgs false
namespace Go.Proofs.YtonnkpclllmkoaaGreat.Eng
open Go Go.RowKit
set_option maxRecDepth 100000
def s_l07ShotR (c : ShT) : Spec := fun args S => match args, S with
  | [.ptr 0 0 0, .ptr 1 j 0], [.box [.int .i64 up, .int .i64 uq, .sl 2 s n x, .int .i64 vp, .bool vb, .int .i64 gp, .int .i64 gq, .sl 3 t m y] true false, .arr (.prod (.prod (.int .i64) (.prod (.prod (.int .i64) (.int .i64)) (.prod (.int .i64) (.int .i64)))) (.prod (.prod (.int .i64) (.int .i64)) (.prod (.prod (.int .i64) (.int .i64)) (.prod (.prod (.int .i64) (.int .i64)) (.prod (.prod (.int .i64) (.int .i64)) (.prod (.int .i64) (.int .i64))))))) L sz wR, .arr (.prod (.int .i64) (.int .i64)) l 2 wr, .arr (.prod .str (.prod (.prod (.int .i64) (.int .i64)) (.prod (.int .i64) (.int .i64)))) T 5 wT] => ⟨(∃ fr : FrT × FrT × FrT × FrT × FrT, L[j]? = some (c, fr)) ∧ (m ≤ 1048576), .bool (shB m c), [.box [.int .i64 up, .int .i64 uq, .sl 2 s n x, .int .i64 vp, .bool vb, .int .i64 gp, .int .i64 gq, .sl 3 t m y] true false, .arr (.prod (.prod (.int .i64) (.prod (.prod (.int .i64) (.int .i64)) (.prod (.int .i64) (.int .i64)))) (.prod (.prod (.int .i64) (.int .i64)) (.prod (.prod (.int .i64) (.int .i64)) (.prod (.prod (.int .i64) (.int .i64)) (.prod (.prod (.int .i64) (.int .i64)) (.prod (.int .i64) (.int .i64))))))) L sz wR, .arr (.prod (.int .i64) (.int .i64)) l 2 wr, .arr (.prod .str (.prod (.prod (.int .i64) (.int .i64)) (.prod (.int .i64) (.int .i64)))) T 5 wT]⟩
  | _, _ => noSpec
theorem ok_l07ShotR (c : ShT) : SpecOk Tryz.prog 129 (s_l07ShotR c) := by
  intro args S h; unfold s_l07ShotR at h ⊢; (split at h <;> first | exact False.elim h | skip)
  dsimp only at h ⊢
  rename_i j up uq s n x vp vb gp gq t m y L sz wR l wr T wT
  obtain ⟨⟨fr, hLj⟩, h⟩ := h
  obtain ⟨i, ⟨wp, wq⟩, sp, sq⟩ := c
  refine funW tabOk (E := [(112, s_within), (146, s_fOk), (153, s_abs)]) ⟨ok_l00In, ok_l01Ok, ok_l01Abs, trivial⟩ [(1, [(29, 2)])] (k := 4) (fn := Tryz.f129) rfl rfl rfl rfl rfl rfl ?_
  (repeat' ((try (conv => whnf)); first | (with_reducible first | refine And.intro ?_ ?_ | refine WX.of ?_) | exact zc | ((with_reducible refine VC.mk ?_); exact zw) | with_reducible refine atL_p hLj ?_ | (with_reducible first | refine splitT ?_ | refine splitF ?_) | ((with_reducible refine splitM.mk (fun hsm => ?_) (fun hsm => ?_)) <;> (try exact zx)) | ((with_reducible refine splitB.mk (fun h => ?_) (fun h => ?_)) <;> (try simp only [zs, ne_eq] at h) <;> (try simp (disch := omega) only [w64] at h) <;> (try exact zx)) | (with_reducible intro hz; (try exact absurd hz (Nat.succ_ne_zero _)))))
  · exact ⟨abs_in h⟩
  · rename_i hi hf
    rw [w100 hf] at h
    exact ⟨congrArg SV.bool (by rw [sh_yes hi hf, decide_eq_true h, Bool.true_and])⟩
  · rename_i hi hf
    rw [w100 hf] at h
    exact ⟨congrArg SV.bool (by rw [sh_no3 (Int.not_le.2 h)])⟩
  · exact ⟨congrArg SV.bool (by rw [sh_no2 (by rw [h, Bool.false_and])])⟩
  · exact ⟨congrArg SV.bool (by rw [sh_no1 h])⟩
def s_l07EndsR (c : ShT) : Spec := fun args S => match args, S with
  | [.ptr 0 0 0, .ptr 1 j 0], [.box [.int .i64 up, .int .i64 uq, .sl 2 s n x, .int .i64 vp, .bool vb, .int .i64 gp, .int .i64 gq, .sl 3 t m y] true false, .arr (.prod (.prod (.int .i64) (.prod (.prod (.int .i64) (.int .i64)) (.prod (.int .i64) (.int .i64)))) (.prod (.prod (.int .i64) (.int .i64)) (.prod (.prod (.int .i64) (.int .i64)) (.prod (.prod (.int .i64) (.int .i64)) (.prod (.prod (.int .i64) (.int .i64)) (.prod (.int .i64) (.int .i64))))))) L sz wR, .arr (.prod (.int .i64) (.int .i64)) l 2 wr, .arr (.prod .str (.prod (.prod (.int .i64) (.int .i64)) (.prod (.int .i64) (.int .i64)))) T 5 wT] => ⟨(∃ fr : FrT × FrT × FrT × FrT × FrT, L[j]? = some (c, fr)) ∧ ((t + m ≤ T.length ∧ m ≤ 1048576) ∧ bnB up uq vp gp gq (seg l s n) (seg T t m) = true ∧ shB m c = true), .tup [.agg [.int .i64 (if oC (enT (seg T t m) c) = 0 then c.2.2.1 else 0), .int .i64 (if oC (enT (seg T t m) c) = 0 then c.2.2.2 else 0)], .agg [.int .i64 (zv (enT (seg T t m) c)).1, .int .i64 (zv (enT (seg T t m) c)).2], .int .i64 (oC (enT (seg T t m) c))], [.box [.int .i64 up, .int .i64 uq, .sl 2 s n x, .int .i64 vp, .bool vb, .int .i64 gp, .int .i64 gq, .sl 3 t m y] true false, .arr (.prod (.prod (.int .i64) (.prod (.prod (.int .i64) (.int .i64)) (.prod (.int .i64) (.int .i64)))) (.prod (.prod (.int .i64) (.int .i64)) (.prod (.prod (.int .i64) (.int .i64)) (.prod (.prod (.int .i64) (.int .i64)) (.prod (.prod (.int .i64) (.int .i64)) (.prod (.int .i64) (.int .i64))))))) L sz wR, .arr (.prod (.int .i64) (.int .i64)) l 2 wr, .arr (.prod .str (.prod (.prod (.int .i64) (.int .i64)) (.prod (.int .i64) (.int .i64)))) T 5 wT]⟩
  | _, _ => noSpec
set_option maxHeartbeats 1600000 in
theorem ok_l07EndsR (c : ShT) : SpecOk Tryz.prog 167 (s_l07EndsR c) := by
  intro args S h; unfold s_l07EndsR at h ⊢; (split at h <;> first | exact False.elim h | skip)
  dsimp only at h ⊢
  rename_i j up uq s n x vp vb gp gq t m y L sz wR l wr T wT
  obtain ⟨⟨fr, hLj⟩, h⟩ := h
  obtain ⟨i, ⟨wp, wq⟩, sp, sq⟩ := c
  obtain ⟨h1, hb0, hs0⟩ := h
  have hM := seg_len h1.1
  have hs := sh_at hs0
  obtain ⟨⟨nm, ⟨Lp, Lq⟩, tp, tq⟩, ha⟩ := get_some (l := seg T t m) (i := i.toNat) (by have := hs.1; omega)
  have hb := bn_at hb0 ha
  dsimp only at hb
  have e : thAt (seg T t m) (i, (wp, wq), sp, sq) = (nm, (Lp, Lq), tp, tq) := by unfold thAt; rw [ha]; rfl
  have hET : enT (seg T t m) (i, (wp, wq), sp, sq) = enO (tp, tq) (wp, wq) (Lp, Lq) (sp, sq) := by unfold enT; rw [e]
  have hi := hs.1
  rw [hET]
  refine funW tabOk (E := [(168, s_stZ), (55, s_mulZ), (57, s_addZ)]) ⟨ok_stZ, ok_l01MulZ, ok_l01AddZ, trivial⟩ [(2, [(12, 0)]), (5, [(9, 0)]), (8, [(9, 0)]), (11, [(4, 1)])] (k := 4) (fn := Tryz.f167) rfl rfl rfl rfl rfl rfl ?_
  (repeat' ((try (conv => whnf)); first | (with_reducible first | refine And.intro ?_ ?_ | refine WX.of ?_) | exact zc | ((with_reducible refine VC.mk ?_); exact zw) | with_reducible refine atL_p hLj ?_ | ((with_reducible refine VC.mk ?_); exact ⟨smF_ok hb.2.1, smF_ok hs.2.1⟩) | ((with_reducible refine VC.mk ?_); exact ⟨⟨fr, hLj⟩, ⟨smF_ok hb.2.1, smF_ok hs.2.1⟩⟩) | with_reducible refine atL_p (seg_get ha).1 ?_ | ((with_reducible refine VC.mk ?_); exact hi) | (with_reducible first | refine splitT ?_ | refine splitF ?_) | ((with_reducible refine splitM.mk (fun hsm => ?_) (fun hsm => ?_)) <;> (try exact zx)) | ((with_reducible refine splitB.mk (fun h => ?_) (fun h => ?_)) <;> (try simp only [zs, ne_eq] at h) <;> (try simp (disch := omega) only [w64] at h) <;> (try exact zx)) | (with_reducible intro hz; (try exact absurd hz (Nat.succ_ne_zero _)))))
  · obtain ⟨e1, e2⟩ := en_1 (L := (Lp, Lq)) (st := (sp, sq)) h
    refine ⟨?_⟩
    simp only [e1, e2]
    rfl
  · obtain ⟨v, ev⟩ := oC_s h
    exact ⟨⟨smF_ok hb.1, by dsimp only; rw [ev]; exact smF_ok (stO_f ev)⟩⟩
  · rename_i h0
    obtain ⟨e1, e2⟩ := en_2 (st := (sp, sq)) h0 h
    refine ⟨?_⟩
    simp only [e1, e2]
    rfl
  · obtain ⟨v, ev⟩ := oC_s h
    exact ⟨⟨smF_ok hs.2.2.2, by dsimp only; rw [ev]; exact smF_ok (rO_f ev)⟩⟩
  · rename_i h0 h2
    have e1 := en_3 (st := (sp, sq)) h0 h2
    have e2 := oC_n h
    refine ⟨?_⟩
    rw [e1, show adO (sp, sq) (zv (muO (Lp, Lq) (zv (stO (tp, tq) (wp, wq))))) = none from e2]
    rfl
  · rename_i h0 h2
    have e1 := en_3 (st := (sp, sq)) h0 h2
    refine ⟨?_⟩
    rw [e1, if_pos h, if_pos h, h]
def s_l07BackR (c : ShT) : Spec := fun args S => match args, S with
  | [.ptr 0 0 0, .ptr 1 j 0, .agg [.int .i64 ap, .int .i64 aq]], [.box [.int .i64 up, .int .i64 uq, .sl 2 s n x, .int .i64 vp, .bool vb, .int .i64 gp, .int .i64 gq, .sl 3 t m y] true false, .arr (.prod (.prod (.int .i64) (.prod (.prod (.int .i64) (.int .i64)) (.prod (.int .i64) (.int .i64)))) (.prod (.prod (.int .i64) (.int .i64)) (.prod (.prod (.int .i64) (.int .i64)) (.prod (.prod (.int .i64) (.int .i64)) (.prod (.prod (.int .i64) (.int .i64)) (.prod (.int .i64) (.int .i64))))))) L sz wR, .arr (.prod (.int .i64) (.int .i64)) l 2 wr, .arr (.prod .str (.prod (.prod (.int .i64) (.int .i64)) (.prod (.int .i64) (.int .i64)))) T 5 wT] => ⟨(∃ fr : FrT × FrT × FrT × FrT × FrT, L[j]? = some (c, fr)) ∧ ((t + m ≤ T.length ∧ m ≤ 1048576) ∧ bnB up uq vp gp gq (seg l s n) (seg T t m) = true ∧ shB m c = true ∧ smF ap aq), .tup [.agg [.int .i64 (zv (bkO (gp, gq) (thAt (seg T t m) c).2.2 c.2.1 (ap, aq))).1, .int .i64 (zv (bkO (gp, gq) (thAt (seg T t m) c).2.2 c.2.1 (ap, aq))).2], .int .i64 (oC (bkO (gp, gq) (thAt (seg T t m) c).2.2 c.2.1 (ap, aq)))], [.box [.int .i64 up, .int .i64 uq, .sl 2 s n x, .int .i64 vp, .bool vb, .int .i64 gp, .int .i64 gq, .sl 3 t m y] true false, .arr (.prod (.prod (.int .i64) (.prod (.prod (.int .i64) (.int .i64)) (.prod (.int .i64) (.int .i64)))) (.prod (.prod (.int .i64) (.int .i64)) (.prod (.prod (.int .i64) (.int .i64)) (.prod (.prod (.int .i64) (.int .i64)) (.prod (.prod (.int .i64) (.int .i64)) (.prod (.int .i64) (.int .i64))))))) L sz wR, .arr (.prod (.int .i64) (.int .i64)) l 2 wr, .arr (.prod .str (.prod (.prod (.int .i64) (.int .i64)) (.prod (.int .i64) (.int .i64)))) T 5 wT]⟩
  | _, _ => noSpec
set_option maxHeartbeats 1600000 in
theorem ok_l07BackR (c : ShT) : SpecOk Tryz.prog 172 (s_l07BackR c) := by
  intro args S h; unfold s_l07BackR at h ⊢; (split at h <;> first | exact False.elim h | skip)
  dsimp only at h ⊢
  rename_i j ap aq up uq s n x vp vb gp gq t m y L sz wR l wr T wT
  obtain ⟨⟨fr, hLj⟩, h⟩ := h
  obtain ⟨i, ⟨wp, wq⟩, sp, sq⟩ := c
  obtain ⟨h1, hb0, hs0, ha0⟩ := h
  have hM := seg_len h1.1
  have hs := sh_at hs0
  have hgg := bn_g hb0
  obtain ⟨⟨nm, ⟨Lp, Lq⟩, tp, tq⟩, ha⟩ := get_some (l := seg T t m) (i := i.toNat) (by have := hs.1; omega)
  have hb := bn_at hb0 ha
  dsimp only at hb
  have e : thAt (seg T t m) (i, (wp, wq), sp, sq) = (nm, (Lp, Lq), tp, tq) := by unfold thAt; rw [ha]; rfl
  have hi := hs.1
  rw [e]
  dsimp only
  refine funW tabOk (E := [(168, s_stZ), (55, s_mulZ), (171, s_divZ)]) ⟨ok_stZ, ok_l01MulZ, ok_l01DivZ, trivial⟩ [(1, [(12, 0)]), (4, [(19, 0)])] (k := 4) (fn := Tryz.f172) rfl rfl rfl rfl rfl rfl ?_
  (repeat' ((try (conv => whnf)); first | (with_reducible first | refine And.intro ?_ ?_ | refine WX.of ?_) | exact zc | ((with_reducible refine VC.mk ?_); exact zw) | with_reducible refine atL_p hLj ?_ | ((with_reducible refine VC.mk ?_); exact ⟨smF_ok hgg.1, smF_ok hs.2.1⟩) | ((with_reducible refine VC.mk ?_); exact ⟨⟨fr, hLj⟩, ⟨smF_ok hgg.1, smF_ok hs.2.1⟩⟩) | ((with_reducible refine VC.mk ?_); exact ⟨smF_ok hb.2.1, smF_ok hs.2.1⟩) | ((with_reducible refine VC.mk ?_); exact ⟨⟨fr, hLj⟩, ⟨smF_ok hb.2.1, smF_ok hs.2.1⟩⟩) | ((with_reducible refine VC.mk ?_); exact hi) | ((with_reducible refine VC.mk ?_); exact ⟨⟨fr, hLj⟩, hi⟩) | with_reducible refine atL_p (seg_get ha).1 ?_ | (with_reducible first | refine splitT ?_ | refine splitF ?_) | ((with_reducible refine splitM.mk (fun hsm => ?_) (fun hsm => ?_)) <;> (try exact zx)) | ((with_reducible refine splitB.mk (fun h => ?_) (fun h => ?_)) <;> (try simp only [zs, ne_eq] at h) <;> (try simp (disch := omega) only [w64] at h) <;> (try exact zx)) | (with_reducible intro hz; (try exact absurd hz (Nat.succ_ne_zero _)))))
  · have e1 := oC_n h
    refine ⟨?_⟩; simp [bkO, e1, zv, oC]
  · rename_i h0
    obtain ⟨v, ev⟩ := oC_s h0
    have e2 := oC_n h
    refine ⟨?_⟩; simp [bkO, ev, e2, zv, oC]
  · rename_i h0
    obtain ⟨v, ev⟩ := oC_s h0
    exact ⟨⟨ha0, by dsimp only; rw [ev]; exact smF_ok (stO_f ev)⟩⟩
  · rename_i h0 h1
    obtain ⟨v, ev⟩ := oC_s h0
    obtain ⟨u, eu⟩ := oC_s h1
    rw [ev] at h
    have e3 : muO (ap, aq) v = none := oC_n h
    refine ⟨?_⟩
    dsimp only
    rw [ev]
    show SV.tup [_, SV.int _ (oC (muO (ap, aq) v))] = _
    simp [bkO, ev, eu, e3, zv, oC]
  · rename_i h0 h1
    obtain ⟨v, ev⟩ := oC_s h0
    obtain ⟨u, eu⟩ := oC_s h1
    obtain ⟨z, ez⟩ := oC_s h
    have hp := st_pos (g := (tp, tq)) (w := (wp, wq)) hb.2.2 hs.2.1 hs.2.2.1 eu
    refine ⟨?_⟩
    dsimp only
    rw [ez, eu]
    exact ⟨smF_ok (rO_f ez), smF_ok (stO_f eu), by show u.1 ≠ 0; omega⟩
  · rename_i h0 h1
    obtain ⟨v, ev⟩ := oC_s h0
    obtain ⟨u, eu⟩ := oC_s h1
    obtain ⟨z, ez⟩ := oC_s h
    have ez2 := ez
    rw [ev] at ez2
    have ez3 : muO (ap, aq) v = some z := ez2
    have hbk : bkO (gp, gq) (tp, tq) (wp, wq) (ap, aq) = dvO z u := by simp [bkO, ev, eu, ez3]
    refine ⟨?_⟩
    rw [hbk]
    dsimp only
    rw [ez, eu]
    rfl
def s_l07LengthR (c : ShT) : Spec := fun args S => match args, S with
  | [.ptr 0 0 0, .ptr 1 j 0, .agg [.int .i64 fp, .int .i64 fq], .agg [.int .i64 kp, .int .i64 kq]], [.box [.int .i64 up, .int .i64 uq, .sl 2 s n x, .int .i64 vp, .bool vb, .int .i64 gp, .int .i64 gq, .sl 3 t m y] true false, .arr (.prod (.prod (.int .i64) (.prod (.prod (.int .i64) (.int .i64)) (.prod (.int .i64) (.int .i64)))) (.prod (.prod (.int .i64) (.int .i64)) (.prod (.prod (.int .i64) (.int .i64)) (.prod (.prod (.int .i64) (.int .i64)) (.prod (.prod (.int .i64) (.int .i64)) (.prod (.int .i64) (.int .i64))))))) L sz wR, .arr (.prod (.int .i64) (.int .i64)) l 2 wr, .arr (.prod .str (.prod (.prod (.int .i64) (.int .i64)) (.prod (.int .i64) (.int .i64)))) T 5 wT] => ⟨(∃ fr : FrT × FrT × FrT × FrT × FrT, L[j]? = some (c, fr)) ∧ ((t + m ≤ T.length ∧ m ≤ 1048576) ∧ bnB up uq vp gp gq (seg l s n) (seg T t m) = true ∧ shB m c = true ∧ smF fp fq ∧ smF kp kq), .tup [.agg [.int .i64 (zv (lnT (gp, gq) (seg T t m) c (fp, fq) (kp, kq))).1, .int .i64 (zv (lnT (gp, gq) (seg T t m) c (fp, fq) (kp, kq))).2], .int .i64 (oC (lnT (gp, gq) (seg T t m) c (fp, fq) (kp, kq)))], [.box [.int .i64 up, .int .i64 uq, .sl 2 s n x, .int .i64 vp, .bool vb, .int .i64 gp, .int .i64 gq, .sl 3 t m y] true false, .arr (.prod (.prod (.int .i64) (.prod (.prod (.int .i64) (.int .i64)) (.prod (.int .i64) (.int .i64)))) (.prod (.prod (.int .i64) (.int .i64)) (.prod (.prod (.int .i64) (.int .i64)) (.prod (.prod (.int .i64) (.int .i64)) (.prod (.prod (.int .i64) (.int .i64)) (.prod (.int .i64) (.int .i64))))))) L sz wR, .arr (.prod (.int .i64) (.int .i64)) l 2 wr, .arr (.prod .str (.prod (.prod (.int .i64) (.int .i64)) (.prod (.int .i64) (.int .i64)))) T 5 wT]⟩
  | _, _ => noSpec
theorem ok_l07LengthR (c : ShT) : SpecOk Tryz.prog 158 (s_l07LengthR c) := by
  intro args S h; unfold s_l07LengthR at h ⊢; (split at h <;> first | exact False.elim h | skip)
  dsimp only at h ⊢
  rename_i j fp fq kp kq up uq s n x vp vb gp gq t m y L sz wR l wr T wT
  obtain ⟨⟨fr, hLj⟩, h⟩ := h
  obtain ⟨h1, hb0, hs0, hf, hk⟩ := h
  refine funW tabOk (E := [(54, s_subZ), (172, (s_l07BackR c))]) ⟨ok_l01SubZ, (ok_l07BackR c), trivial⟩ [] (k := 4) (fn := Tryz.f158) rfl rfl rfl rfl rfl rfl ?_
  (repeat' ((try (conv => whnf)); first | (with_reducible first | refine And.intro ?_ ?_ | refine WX.of ?_) | exact zc | ((with_reducible refine VC.mk ?_); exact zw) | with_reducible refine atL_p hLj ?_ | ((with_reducible refine VC.mk ?_); exact ⟨hk, hf⟩) | ((with_reducible refine VC.mk ?_); exact ⟨⟨fr, hLj⟩, ⟨hk, hf⟩⟩) | (with_reducible first | refine splitT ?_ | refine splitF ?_) | ((with_reducible refine splitM.mk (fun hsm => ?_) (fun hsm => ?_)) <;> (try exact zx)) | ((with_reducible refine splitB.mk (fun h => ?_) (fun h => ?_)) <;> (try simp only [zs, ne_eq] at h) <;> (try simp (disch := omega) only [w64] at h) <;> (try exact zx)) | (with_reducible intro hz; (try exact absurd hz (Nat.succ_ne_zero _)))))
  · have e := oC_n h
    refine ⟨?_⟩; simp [lnT, lnO, e, zv, oC]
  · obtain ⟨v, ev⟩ := oC_s h
    exact ⟨⟨⟨fr, hLj⟩, h1, hb0, hs0, by dsimp only; rw [ev]; exact smF_ok (rO_f ev)⟩⟩
  · obtain ⟨v, ev⟩ := oC_s h
    have hln : lnT (gp, gq) (seg T t m) c (fp, fq) (kp, kq) = bkO (gp, gq) (thAt (seg T t m) c).2.2 c.2.1 v := by simp [lnT, lnO, ev]
    refine ⟨?_⟩
    rw [hln]
    dsimp only
    rw [ev]
    rfl
def s_l07OpenR (c : ShT) : Spec := fun args S => match args, S with
  | [.ptr 0 0 0, .ptr 1 j 0, .agg [.int .i64 fp, .int .i64 fq], .agg [.int .i64 kp, .int .i64 kq]], [.box [.int .i64 up, .int .i64 uq, .sl 2 s n x, .int .i64 vp, .bool vb, .int .i64 gp, .int .i64 gq, .sl 3 t m y] true false, .arr (.prod (.prod (.int .i64) (.prod (.prod (.int .i64) (.int .i64)) (.prod (.int .i64) (.int .i64)))) (.prod (.prod (.int .i64) (.int .i64)) (.prod (.prod (.int .i64) (.int .i64)) (.prod (.prod (.int .i64) (.int .i64)) (.prod (.prod (.int .i64) (.int .i64)) (.prod (.int .i64) (.int .i64))))))) L sz wR, .arr (.prod (.int .i64) (.int .i64)) l 2 wr, .arr (.prod .str (.prod (.prod (.int .i64) (.int .i64)) (.prod (.int .i64) (.int .i64)))) T 5 wT] => ⟨(∃ fr : FrT × FrT × FrT × FrT × FrT, L[j]? = some (c, fr)) ∧ (((s + n ≤ l.length ∧ n ≤ 1048576) ∧ t + m ≤ T.length ∧ m ≤ 1048576) ∧ bnB up uq vp gp gq (seg l s n) (seg T t m) = true ∧ shB m c = true ∧ smF fp fq ∧ smF kp kq), .tup [z2S (opT (up, uq) (seg l s n) vp (gp, gq) (seg T t m) c (fp, fq) (kp, kq)), .int .i64 (oS (opT (up, uq) (seg l s n) vp (gp, gq) (seg T t m) c (fp, fq) (kp, kq)))], [.box [.int .i64 up, .int .i64 uq, .sl 2 s n x, .int .i64 vp, .bool vb, .int .i64 gp, .int .i64 gq, .sl 3 t m y] true false, .arr (.prod (.prod (.int .i64) (.prod (.prod (.int .i64) (.int .i64)) (.prod (.int .i64) (.int .i64)))) (.prod (.prod (.int .i64) (.int .i64)) (.prod (.prod (.int .i64) (.int .i64)) (.prod (.prod (.int .i64) (.int .i64)) (.prod (.prod (.int .i64) (.int .i64)) (.prod (.int .i64) (.int .i64))))))) L sz wR, .arr (.prod (.int .i64) (.int .i64)) l 2 wr, .arr (.prod .str (.prod (.prod (.int .i64) (.int .i64)) (.prod (.int .i64) (.int .i64)))) T 5 wT]⟩
  | _, _ => noSpec
attribute [local irreducible] rO sbO adO muO dvO bkO dbO arO opO in
set_option maxHeartbeats 1600000 in
theorem ok_l07OpenR (c : ShT) : SpecOk Tryz.prog 159 (s_l07OpenR c) := by
  intro args S h; unfold s_l07OpenR at h ⊢; (split at h <;> first | exact False.elim h | skip)
  dsimp only at h ⊢
  rename_i j fp fq kp kq up uq s n x vp vb gp gq t m y L sz wR l wr T wT
  obtain ⟨⟨fr, hLj⟩, h⟩ := h
  obtain ⟨⟨h1, h2⟩, hb0, hs0, hf, hk⟩ := h
  have hL := seg_len h1.1
  have hgg := bn_g hb0
  have hel := sc_el hgg.2.2.2.2
  have hO : opT (up, uq) (seg l s n) vp (gp, gq) (seg T t m) c (fp, fq) (kp, kq) = opO (sbO (kp, kq) (fp, fq)) (dbO (up, uq) vp (wrN (seg l s n) n)) (gp, gq) (thAt (seg T t m) c).2.2 c.2.1 := by unfold opT; rw [hL]
  rw [hO]
  refine funW tabOk (E := [(54, s_subZ), (173, s_l02Open), (56, s_num), (55, s_mulZ), (174, s_around), (172, (s_l07BackR c)), (160, s_both)]) ⟨ok_l01SubZ, ok_l02Open, ok_l01Whole, ok_l01MulZ, ok_l01Around, (ok_l07BackR c), ok_l01Both, trivial⟩ [(4, [(10, 0)]), (7, [(1, 0), (6, 0), (6, 1)])] (k := 4) (fn := Tryz.f159) rfl rfl rfl rfl rfl rfl ?_
  (repeat' ((try (conv => whnf)); first | (with_reducible first | refine And.intro ?_ ?_ | refine WX.of ?_) | exact zc | ((with_reducible refine VC.mk ?_); exact zw) | with_reducible refine atL_p hLj ?_ | ((with_reducible refine VC.mk ?_); exact ⟨hk, hf⟩) | ((with_reducible refine VC.mk ?_); exact ⟨⟨fr, hLj⟩, ⟨hk, hf⟩⟩) | ((with_reducible refine VC.mk ?_); exact ⟨⟨h1, hel⟩, smF_ok hgg.2.2.1, hgg.2.2.2.1⟩) | ((with_reducible refine VC.mk ?_); exact ⟨⟨fr, hLj⟩, ⟨⟨h1, hel⟩, smF_ok hgg.2.2.1, hgg.2.2.2.1⟩⟩) | ((with_reducible refine VC.mk ?_); exact ⟨smF_1 (by omega), (by assumption)⟩) | ((with_reducible refine VC.mk ?_); exact ⟨⟨fr, hLj⟩, ⟨smF_1 (by omega), (by assumption)⟩⟩) | ((with_reducible refine VC.mk ?_); exact ⟨(by assumption), (by assumption)⟩) | ((with_reducible refine VC.mk ?_); exact ⟨⟨fr, hLj⟩, ⟨(by assumption), (by assumption)⟩⟩) | ((with_reducible refine VC.mk ?_); exact ⟨h2, hb0, hs0, (by assumption)⟩) | ((with_reducible refine VC.mk ?_); exact ⟨⟨fr, hLj⟩, ⟨h2, hb0, hs0, (by assumption)⟩⟩) | ((with_reducible refine splitO (by first  |  exact okO_sb _ _  |  exact okO_db _ _ _  |  exact okO_mu _ _  |  exact okO_bk _ _ _ _) (fun h => ?_) (fun a b h hs => ?_)) <;> (try rw [h])) | ((with_reducible refine splitAr (fun h => ?_) (fun x1 x2 x3 x4 h hs hs' => ?_)) <;> (try rw [h])) | (with_reducible first | refine splitT ?_ | refine splitF ?_) | ((with_reducible refine splitM.mk (fun hsm => ?_) (fun hsm => ?_)) <;> (try exact zx)) | ((with_reducible refine splitB.mk (fun h => ?_) (fun h => ?_)) <;> (try simp only [zs, ne_eq] at h) <;> (try simp (disch := omega) only [w64] at h) <;> (try exact zx)) | (with_reducible intro hz; (try exact absurd hz (Nat.succ_ne_zero _)))))
  all_goals (refine ⟨?_⟩; simp only [zv, Option.getD_some] at *; first | (simp [opO, z2S, z2, oS, oC, *]; done) | skip)
  simp only [z2, Option.getD_some, opO, Option.bind_some, z2S, *] at *
  rcases (bkO (gp, gq) (thAt (seg T t m) c).2.2 c.2.1 (x1, x2)).eq_none_or_eq_some with h5 | ⟨v, h5⟩ <;> rcases (bkO (gp, gq) (thAt (seg T t m) c).2.2 c.2.1 (x3, x4)).eq_none_or_eq_some with h6 | ⟨v', h6⟩ <;> simp [oC, oS, h5, h6]
def s_l07Ends1R (c : ShT) (e : FrT) : Spec := fun args S => match args, S with
  | [.ptr 0 0 0, .ptr 1 j 0], [.box [.int .i64 up, .int .i64 uq, .sl 2 s n x, .int .i64 vp, .bool vb, .int .i64 gp, .int .i64 gq, .sl 3 t m y] true false, .arr (.prod (.prod (.int .i64) (.prod (.prod (.int .i64) (.int .i64)) (.prod (.int .i64) (.int .i64)))) (.prod (.prod (.int .i64) (.int .i64)) (.prod (.prod (.int .i64) (.int .i64)) (.prod (.prod (.int .i64) (.int .i64)) (.prod (.prod (.int .i64) (.int .i64)) (.prod (.int .i64) (.int .i64))))))) L sz wR, .arr (.prod (.int .i64) (.int .i64)) l 2 wr, .arr (.prod .str (.prod (.prod (.int .i64) (.int .i64)) (.prod (.int .i64) (.int .i64)))) T 5 wT] => ⟨(∃ fr : FrT × FrT × FrT × FrT × FrT, L[j]? = some (c, fr)) ∧ (((t + m ≤ T.length ∧ m ≤ 1048576) ∧ bnB up uq vp gp gq (seg l s n) (seg T t m) = true ∧ shB m c = true) ∧ enT (seg T t m) c = some e), .tup [.agg [.int .i64 c.2.2.1, .int .i64 c.2.2.2], .agg [.int .i64 e.1, .int .i64 e.2], .int .i64 0], [.box [.int .i64 up, .int .i64 uq, .sl 2 s n x, .int .i64 vp, .bool vb, .int .i64 gp, .int .i64 gq, .sl 3 t m y] true false, .arr (.prod (.prod (.int .i64) (.prod (.prod (.int .i64) (.int .i64)) (.prod (.int .i64) (.int .i64)))) (.prod (.prod (.int .i64) (.int .i64)) (.prod (.prod (.int .i64) (.int .i64)) (.prod (.prod (.int .i64) (.int .i64)) (.prod (.prod (.int .i64) (.int .i64)) (.prod (.int .i64) (.int .i64))))))) L sz wR, .arr (.prod (.int .i64) (.int .i64)) l 2 wr, .arr (.prod .str (.prod (.prod (.int .i64) (.int .i64)) (.prod (.int .i64) (.int .i64)))) T 5 wT]⟩
  | _, _ => noSpec
theorem ok_l07Ends1R (c : ShT) (e : FrT) : SpecOk Tryz.prog 167 (s_l07Ends1R c e) := by
  intro args S h; unfold s_l07Ends1R at h ⊢; (split at h <;> first | exact False.elim h | skip)
  dsimp only at h ⊢
  rename_i j up uq s n x vp vb gp gq t m y L sz wR l wr T wT
  obtain ⟨⟨fr, hLj⟩, h⟩ := h
  have h2 := ok_l07EndsR c [.ptr 0 0 0, .ptr 1 j 0] [.box [.int .i64 up, .int .i64 uq, .sl 2 s n x, .int .i64 vp, .bool vb, .int .i64 gp, .int .i64 gq, .sl 3 t m y] true false, .arr (.prod (.prod (.int .i64) (.prod (.prod (.int .i64) (.int .i64)) (.prod (.int .i64) (.int .i64)))) (.prod (.prod (.int .i64) (.int .i64)) (.prod (.prod (.int .i64) (.int .i64)) (.prod (.prod (.int .i64) (.int .i64)) (.prod (.prod (.int .i64) (.int .i64)) (.prod (.int .i64) (.int .i64))))))) L sz wR, .arr (.prod (.int .i64) (.int .i64)) l 2 wr, .arr (.prod .str (.prod (.prod (.int .i64) (.int .i64)) (.prod (.int .i64) (.int .i64)))) T 5 wT] ⟨⟨fr, hLj⟩, h.1⟩
  simp only [s_l07EndsR, h.2, oC, zv_s, if_true, Option.isSome_some] at h2
  exact h2
def s_l07ReadR (c : ShT) : Spec := fun args S => match args, S with
  | [.ptr 0 0 0, .ptr 1 j 0], [.box [.int .i64 up, .int .i64 uq, .sl 2 s n x, .int .i64 vp, .bool vb, .int .i64 gp, .int .i64 gq, .sl 3 t m y] true false, .arr (.prod (.prod (.int .i64) (.prod (.prod (.int .i64) (.int .i64)) (.prod (.int .i64) (.int .i64)))) (.prod (.prod (.int .i64) (.int .i64)) (.prod (.prod (.int .i64) (.int .i64)) (.prod (.prod (.int .i64) (.int .i64)) (.prod (.prod (.int .i64) (.int .i64)) (.prod (.int .i64) (.int .i64))))))) L sz wR, .arr (.prod (.int .i64) (.int .i64)) l 2 wr, .arr (.prod .str (.prod (.prod (.int .i64) (.int .i64)) (.prod (.int .i64) (.int .i64)))) T 5 wT] => ⟨(∃ fr : FrT × FrT × FrT × FrT × FrT, L[j]? = some (c, fr)) ∧ (((s + n ≤ l.length ∧ n ≤ 1048576) ∧ t + m ≤ T.length ∧ m ≤ 1048576) ∧ bnB up uq vp gp gq (seg l s n) (seg T t m) = true ∧ shB m c = true), .tup [.agg [.int .i64 (e2V (endsE (up, uq) (seg l s n) vp vb (gp, gq) (seg T t m) c)).1.1, .int .i64 (e2V (endsE (up, uq) (seg l s n) vp vb (gp, gq) (seg T t m) c)).1.2], .agg [.int .i64 (e2V (endsE (up, uq) (seg l s n) vp vb (gp, gq) (seg T t m) c)).2.1, .int .i64 (e2V (endsE (up, uq) (seg l s n) vp vb (gp, gq) (seg T t m) c)).2.2], .int .i64 (eC (endsE (up, uq) (seg l s n) vp vb (gp, gq) (seg T t m) c))], [.box [.int .i64 up, .int .i64 uq, .sl 2 s n x, .int .i64 vp, .bool vb, .int .i64 gp, .int .i64 gq, .sl 3 t m y] true false, .arr (.prod (.prod (.int .i64) (.prod (.prod (.int .i64) (.int .i64)) (.prod (.int .i64) (.int .i64)))) (.prod (.prod (.int .i64) (.int .i64)) (.prod (.prod (.int .i64) (.int .i64)) (.prod (.prod (.int .i64) (.int .i64)) (.prod (.prod (.int .i64) (.int .i64)) (.prod (.int .i64) (.int .i64))))))) L sz wR, .arr (.prod (.int .i64) (.int .i64)) l 2 wr, .arr (.prod .str (.prod (.prod (.int .i64) (.int .i64)) (.prod (.int .i64) (.int .i64)))) T 5 wT]⟩
  | _, _ => noSpec
attribute [local irreducible] sbO muO adO dvO stO enT warmE readE endsE rdE bnB shB in
set_option maxHeartbeats 3200000 in
theorem ok_l07ReadR (c : ShT) : SpecOk Tryz.prog 157 (s_l07ReadR c) := by
  intro args S h; unfold s_l07ReadR at h ⊢; (split at h <;> first | exact False.elim h | skip)
  dsimp only at h ⊢
  rename_i j up uq s n x vp vb gp gq t m y0 L sz wR l wr T wT
  obtain ⟨⟨fr, hLj⟩, h⟩ := h
  obtain ⟨hq, hbn, hshb⟩ := h
  have hL := seg_len hq.1.1
  have hgg := bn_g hbn
  have hsh := sh_e hshb
  have hgs := smF_ok hgg.1
  have hws := smF_ok hsh.2.1
  rcases ends_c (up, uq) (seg l s n) vp vb (gp, gq) (seg T t m) c with ⟨he, hE⟩ | ⟨e, he, hcc⟩
  · rw [hE]
    have hcn : decide (oC (enT (seg T t m) c) ≠ 0) = true := by rw [he]; rfl
    refine funW tabOk (E := [(167, (s_l07EndsR c))]) ⟨(ok_l07EndsR c), trivial⟩ [(4, [(12, 0)]), (7, [(0, 1), (6, 0), (6, 1)]), (10, [(9, 0)]), (17, [(10, 0)]), (24, [(3, 1)])] (k := 4) (fn := Tryz.f157) rfl rfl rfl rfl rfl rfl ?_
    (repeat' ((try (conv => whnf)); first | (with_reducible first | refine And.intro ?_ ?_ | refine WX.of ?_) | exact zc | ((with_reducible refine VC.mk ?_); exact zw) | with_reducible refine atL_p hLj ?_ | ((with_reducible refine splitT_of ?_ ?_); (focus (simp only [hcn, Bool.not_true, Bool.not_false, decide_true, decide_false]; done))) | ((with_reducible refine splitF_of ?_ ?_); (focus (simp only [hcn, Bool.not_true, Bool.not_false, decide_true, decide_false]; done))) | ((with_reducible refine VC.mk ?_); exact ⟨hq.2, hbn, hshb⟩) | ((with_reducible refine VC.mk ?_); exact ⟨⟨fr, hLj⟩, ⟨hq.2, hbn, hshb⟩⟩) | (with_reducible first | refine splitT ?_ | refine splitF ?_) | ((with_reducible refine splitM.mk (fun hsm => ?_) (fun hsm => ?_)) <;> (try exact zx)) | ((with_reducible refine splitB.mk (fun h => ?_) (fun h => ?_)) <;> (try simp only [zs, ne_eq] at h) <;> (try simp (disch := omega) only [w64] at h) <;> (try exact zx)) | (with_reducible intro hz; (try exact absurd hz (Nat.succ_ne_zero _)))))
    all_goals exact ⟨by rw [he]; rfl⟩
  · rcases hcc with ⟨hs, hE⟩ | ⟨st, hs, hcc⟩
    · rw [hE]
      have hcn : decide (oC (stO (gp, gq) c.2.1) ≠ 0) = true := by rw [hs]; rfl
      refine funW tabOk (E := [(167, (s_l07Ends1R c e)), (168, s_stZ)]) ⟨(ok_l07Ends1R c e), ok_stZ, trivial⟩ [(4, [(12, 0)]), (7, [(0, 1), (6, 0), (6, 1)]), (10, [(9, 0)]), (17, [(10, 0)]), (24, [(3, 1)])] (k := 4) (fn := Tryz.f157) rfl rfl rfl rfl rfl rfl ?_
      (repeat' ((try (conv => whnf)); first | (with_reducible first | refine And.intro ?_ ?_ | refine WX.of ?_) | exact zc | ((with_reducible refine VC.mk ?_); exact zw) | with_reducible refine atL_p hLj ?_ | ((with_reducible refine VC.mk ?_); exact ⟨⟨hq.2, hbn, hshb⟩, he⟩) | ((with_reducible refine VC.mk ?_); exact ⟨⟨fr, hLj⟩, ⟨⟨hq.2, hbn, hshb⟩, he⟩⟩) | ((with_reducible refine VC.mk ?_); exact ⟨hgs, hws⟩) | ((with_reducible refine VC.mk ?_); exact ⟨⟨fr, hLj⟩, ⟨hgs, hws⟩⟩) | ((with_reducible refine splitT_of ?_ ?_); (focus (simp only [hcn, pr_eta, Bool.not_true, Bool.not_false, decide_true, decide_false]; done))) | ((with_reducible refine splitF_of ?_ ?_); (focus (simp only [hcn, pr_eta, Bool.not_true, Bool.not_false, decide_true, decide_false]; done))) | (with_reducible first | refine splitT ?_ | refine splitF ?_) | ((with_reducible refine splitM.mk (fun hsm => ?_) (fun hsm => ?_)) <;> (try exact zx)) | ((with_reducible refine splitB.mk (fun h => ?_) (fun h => ?_)) <;> (try simp only [zs, ne_eq] at h) <;> (try simp (disch := omega) only [w64] at h) <;> (try exact zx)) | (with_reducible intro hz; (try exact absurd hz (Nat.succ_ne_zero _)))))
      all_goals exact ⟨by simp only [pr_eta]; rw [hs]; rfl⟩
    · have hst := smF_ok (stO_f hs)
      have hpos := st_pos hgg.2.1 hsh.2.1 hsh.2.2.1 hs
      rcases hcc with ⟨hb, hE⟩ | ⟨y, hb, hcc⟩
      · rw [hE]
        have hcn : decide (oC (sbO st (1, 1)) ≠ 0) = true := by rw [hb]; rfl
        refine funW tabOk (E := [(167, (s_l07Ends1R c e)), (168, (s_stZP st)), (56, s_num), (54, s_subZ)]) ⟨(ok_l07Ends1R c e), (ok_stZP st), ok_l01Whole, ok_l01SubZ, trivial⟩ [(4, [(12, 0)]), (7, [(0, 1), (6, 0), (6, 1)]), (10, [(9, 0)]), (17, [(10, 0)]), (24, [(3, 1)])] (k := 4) (fn := Tryz.f157) rfl rfl rfl rfl rfl rfl ?_
        (repeat' ((try (conv => whnf)); first | (with_reducible first | refine And.intro ?_ ?_ | refine WX.of ?_) | exact zc | ((with_reducible refine VC.mk ?_); exact zw) | with_reducible refine atL_p hLj ?_ | ((with_reducible refine VC.mk ?_); exact ⟨⟨hq.2, hbn, hshb⟩, he⟩) | ((with_reducible refine VC.mk ?_); exact ⟨⟨fr, hLj⟩, ⟨⟨hq.2, hbn, hshb⟩, he⟩⟩) | ((with_reducible refine VC.mk ?_); exact ⟨⟨hgs, hws⟩, hs⟩) | ((with_reducible refine VC.mk ?_); exact ⟨⟨fr, hLj⟩, ⟨⟨hgs, hws⟩, hs⟩⟩) | ((with_reducible refine VC.mk ?_); exact ⟨hst, smF_1 (by omega)⟩) | ((with_reducible refine VC.mk ?_); exact ⟨⟨fr, hLj⟩, ⟨hst, smF_1 (by omega)⟩⟩) | ((with_reducible refine splitT_of ?_ ?_); (focus (simp only [hcn, pr_eta, Bool.not_true, Bool.not_false, decide_true, decide_false]; done))) | ((with_reducible refine splitF_of ?_ ?_); (focus (simp only [hcn, pr_eta, Bool.not_true, Bool.not_false, decide_true, decide_false]; done))) | (with_reducible first | refine splitT ?_ | refine splitF ?_) | ((with_reducible refine splitM.mk (fun hsm => ?_) (fun hsm => ?_)) <;> (try exact zx)) | ((with_reducible refine splitB.mk (fun h => ?_) (fun h => ?_)) <;> (try simp only [zs, ne_eq] at h) <;> (try simp (disch := omega) only [w64] at h) <;> (try exact zx)) | (with_reducible intro hz; (try exact absurd hz (Nat.succ_ne_zero _)))))
        all_goals exact ⟨by simp only [pr_eta]; rw [hb]; rfl⟩
      · have hy := okO_sb _ _ _ hb
        rcases hcc with ⟨k, hk0, hw, hE⟩ | ⟨w, E', hw, hE⟩
        · rw [hE]
          have hcn : decide (k ≠ 0) = true := decide_eq_true hk0
          refine funW tabOk (E := [(167, (s_l07Ends1R c e)), (168, (s_stZP st)), (56, s_num), (54, (s_subZP y)), (169, (s_warm0 k))]) ⟨(ok_l07Ends1R c e), (ok_stZP st), ok_l01Whole, (ok_subZP y), (ok_warm0S k), trivial⟩ [(4, [(12, 0)]), (7, [(0, 1), (6, 0), (6, 1)]), (10, [(9, 0)]), (17, [(10, 0)]), (24, [(3, 1)])] (k := 4) (fn := Tryz.f157) rfl rfl rfl rfl rfl rfl ?_
          (repeat' ((try (conv => whnf)); first | (with_reducible first | refine And.intro ?_ ?_ | refine WX.of ?_) | exact zc | ((with_reducible refine VC.mk ?_); exact zw) | with_reducible refine atL_p hLj ?_ | ((with_reducible refine splitT_of ?_ ?_); (focus (simp only [hcn, Bool.not_true, Bool.not_false, decide_true, decide_false]; done))) | ((with_reducible refine splitF_of ?_ ?_); (focus (simp only [hcn, Bool.not_true, Bool.not_false, decide_true, decide_false]; done))) | ((with_reducible refine VC.mk ?_); exact ⟨⟨hq.2, hbn, hshb⟩, he⟩) | ((with_reducible refine VC.mk ?_); exact ⟨⟨fr, hLj⟩, ⟨⟨hq.2, hbn, hshb⟩, he⟩⟩) | ((with_reducible refine VC.mk ?_); exact ⟨⟨hgs, hws⟩, hs⟩) | ((with_reducible refine VC.mk ?_); exact ⟨⟨fr, hLj⟩, ⟨⟨hgs, hws⟩, hs⟩⟩) | ((with_reducible refine VC.mk ?_); exact ⟨⟨hst, smF_1 (by omega)⟩, hb⟩) | ((with_reducible refine VC.mk ?_); exact ⟨⟨fr, hLj⟩, ⟨⟨hst, smF_1 (by omega)⟩, hb⟩⟩) | ((with_reducible refine VC.mk ?_); exact ⟨⟨hq.1.1, hgg.2.2.2.2, hy⟩, hw⟩) | ((with_reducible refine VC.mk ?_); exact ⟨⟨fr, hLj⟩, ⟨⟨hq.1.1, hgg.2.2.2.2, hy⟩, hw⟩⟩) | (with_reducible first | refine splitT ?_ | refine splitF ?_) | ((with_reducible refine splitM.mk (fun hsm => ?_) (fun hsm => ?_)) <;> (try exact zx)) | ((with_reducible refine splitB.mk (fun h => ?_) (fun h => ?_)) <;> (try simp only [zs, ne_eq] at h) <;> (try simp (disch := omega) only [w64] at h) <;> (try exact zx)) | (with_reducible intro hz; (try exact absurd hz (Nat.succ_ne_zero _)))))
        · rw [hE]
          obtain ⟨f, hwo⟩ := (warm_ok hw).2
          have hE3 : E'.length = n := by rw [← hwo.2.2.2.2, wm_len, hL]
          have hE2 : seg E' 0 n = E' := seg_full hE3
          have hwsc := hwo.2.2.2.1
          have hE4 : 0 + n ≤ E'.length := by omega
          have hen := smF_ok (en_f he)
          have hbe := smF_ok hsh.2.2.2
          refine funW tabOk (E := [(167, (s_l07Ends1R c e)), (168, (s_stZP st)), (56, s_num), (54, (s_subZP y)), (169, (s_warm1 w E')), (170, (s_l02ReadQ w E')), (171, s_divZ)]) ⟨(ok_l07Ends1R c e), (ok_stZP st), ok_l01Whole, (ok_subZP y), (ok_warm1S w E'), (ok_l02ReadQ w E'), ok_l01DivZ, trivial⟩ [(4, [(12, 0)]), (7, [(0, 1), (6, 0), (6, 1)]), (10, [(9, 0)]), (17, [(10, 0)]), (24, [(3, 1)])] (k := 4) (fn := Tryz.f157) rfl rfl rfl rfl rfl rfl ?_
          (repeat' ((try (conv => whnf)); first | (with_reducible first | refine And.intro ?_ ?_ | refine WX.of ?_) | exact zc | ((with_reducible refine VC.mk ?_); exact zw) | with_reducible refine atL_p hLj ?_ | ((with_reducible refine VC.mk ?_); exact ⟨⟨hq.2, hbn, hshb⟩, he⟩) | ((with_reducible refine VC.mk ?_); exact ⟨⟨fr, hLj⟩, ⟨⟨hq.2, hbn, hshb⟩, he⟩⟩) | ((with_reducible refine VC.mk ?_); exact ⟨⟨hgs, hws⟩, hs⟩) | ((with_reducible refine VC.mk ?_); exact ⟨⟨fr, hLj⟩, ⟨⟨hgs, hws⟩, hs⟩⟩) | ((with_reducible refine VC.mk ?_); exact ⟨⟨hst, smF_1 (by omega)⟩, hb⟩) | ((with_reducible refine VC.mk ?_); exact ⟨⟨fr, hLj⟩, ⟨⟨hst, smF_1 (by omega)⟩, hb⟩⟩) | ((with_reducible refine VC.mk ?_); exact ⟨⟨hq.1.1, hgg.2.2.2.2, hy⟩, hw⟩) | ((with_reducible refine VC.mk ?_); exact ⟨⟨fr, hLj⟩, ⟨⟨hq.1.1, hgg.2.2.2.2, hy⟩, hw⟩⟩) | (with_reducible first | refine splitT ?_ | refine splitF ?_) | ((with_reducible refine splitM.mk (fun hsm => ?_) (fun hsm => ?_)) <;> (try exact zx)) | ((with_reducible refine splitB.mk (fun h => ?_) (fun h => ?_)) <;> (try simp only [zs, ne_eq] at h) <;> (try simp (disch := omega) only [w64] at h) <;> (try exact zx)) | (with_reducible intro hz; (try exact absurd hz (Nat.succ_ne_zero _)))))
          refine loopW tabOk (E := [(167, (s_l07Ends1R c e)), (168, (s_stZP st)), (56, s_num), (54, (s_subZP y)), (169, (s_warm1 w E')), (170, (s_l02ReadQ w E')), (171, s_divZ)]) ⟨(ok_l07Ends1R c e), (ok_stZP st), ok_l01Whole, (ok_subZP y), (ok_warm1S w E'), (ok_l02ReadQ w E'), ok_l01DivZ, trivial⟩ [(4, [(12, 0)]), (7, [(0, 1), (6, 0), (6, 1)]), (10, [(9, 0)]), (17, [(10, 0)]), (24, [(3, 1)])] (σ := List FrT) (fun O => match O with | [] => [(0, .ptr 0 0 0), (1, .ptr 1 j 0), (4, .ptr 4 0 0), (5, .ptr 5 0 0), (10, .ptr 6 0 0), (14, .ptr 7 0 0), (16, .ptr 9 0 0), (17, .int .i64 0)] | [_] => [(0, .ptr 0 0 0), (1, .ptr 1 j 0), (4, .ptr 4 0 0), (5, .ptr 5 0 0), (10, .ptr 6 0 0), (14, .ptr 7 0 0), (16, .ptr 9 0 0), (17, .int .i64 1)] | _ => [(0, .ptr 0 0 0), (1, .ptr 1 j 0), (4, .ptr 4 0 0), (5, .ptr 5 0 0), (10, .ptr 6 0 0), (14, .ptr 7 0 0), (16, .ptr 9 0 0), (17, .int .i64 2)]) (fun O => [.box [.int .i64 up, .int .i64 uq, .sl 2 s n x, .int .i64 vp, .bool vb, .int .i64 gp, .int .i64 gq, .sl 3 t m y0] true false, .arr (.prod (.prod (.int .i64) (.prod (.prod (.int .i64) (.int .i64)) (.prod (.int .i64) (.int .i64)))) (.prod (.prod (.int .i64) (.int .i64)) (.prod (.prod (.int .i64) (.int .i64)) (.prod (.prod (.int .i64) (.int .i64)) (.prod (.prod (.int .i64) (.int .i64)) (.prod (.int .i64) (.int .i64))))))) L sz wR, .arr (.prod (.int .i64) (.int .i64)) l 2 wr, .arr (.prod .str (.prod (.prod (.int .i64) (.int .i64)) (.prod (.int .i64) (.int .i64)))) T 5 wT, .arr (.prod (.int .i64) (.int .i64)) [(0, 0)] 0 true, .arr (.prod (.int .i64) (.int .i64)) [(0, 0)] 0 true, .arr (.prod (.int .i64) (.int .i64)) [st] 0 true, .box [.int .i64 w.1, .int .i64 w.2, .sl 8 0 n 0] true false, .arr (.prod (.int .i64) (.int .i64)) E' 2 true, .arr (.prod (.int .i64) (.int .i64)) (match O with | [] => [c.2.2, e] | [d1] => [d1, e] | d1 :: d2 :: _ => [d1, d2]) 0 true]) (fun O => 2 - O.length) (fun O => O = [] ∨ (∃ d1, oneE w E' vp vb st c.2.2 = .ok d1 ∧ O = [d1]) ∨ ∃ d1 d2, oneE w E' vp vb st c.2.2 = .ok d1 ∧ oneE w E' vp vb st e = .ok d2 ∧ O = [d1, d2]) [] (.inl rfl) ?_ ?_
          · (repeat' ((try (conv => whnf)); first | (with_reducible first | refine And.intro ?_ ?_ | refine WX.of ?_) | exact zc | ((with_reducible refine VC.mk ?_); exact zw) | with_reducible refine atL_p hLj ?_ | (with_reducible first | refine splitT ?_ | refine splitF ?_) | ((with_reducible refine splitM.mk (fun hsm => ?_) (fun hsm => ?_)) <;> (try exact zx)) | ((with_reducible refine splitB.mk (fun h => ?_) (fun h => ?_)) <;> (try simp only [zs, ne_eq] at h) <;> (try simp (disch := omega) only [w64] at h) <;> (try exact zx)) | (with_reducible intro hz; (try exact absurd hz (Nat.succ_ne_zero _)))))
          · intro O hO
            rcases hO with rfl | ⟨d1, h1, rfl⟩ | ⟨d1, d2, h1, h2, rfl⟩
            · (repeat' ((try (conv => whnf)); first | (with_reducible first | refine And.intro ?_ ?_ | refine WX.of ?_) | exact zc | ((with_reducible refine VC.mk ?_); exact zw) | with_reducible refine atL_p hLj ?_ | ((with_reducible refine VC.mk ?_); exact ⟨⟨rfl, hE2⟩, hE4, hwsc, hgg.2.2.2.1, hbe⟩) | ((with_reducible refine VC.mk ?_); exact ⟨⟨fr, hLj⟩, ⟨⟨rfl, hE2⟩, hE4, hwsc, hgg.2.2.2.1, hbe⟩⟩) | ((with_reducible refine VC.mk ?_); exact ⟨smF_ok (read_f (by assumption)), hst, (by omega)⟩) | ((with_reducible refine VC.mk ?_); exact ⟨⟨fr, hLj⟩, ⟨smF_ok (read_f (by assumption)), hst, (by omega)⟩⟩) | ((with_reducible refine splitE (enz_read _ _ _ _ _) (fun c h => ?_) (fun a h => ?_)) <;> (rw [h])) | ((with_reducible refine splitO (by first  |  exact okO_sb _ _  |  exact okO_mu _ _  |  exact okO_ad _ _  |  exact okO_dv _ _  |  exact okO_bind _ _ fun _ => okO_ad _ _  |  exact okO_sb _ _) (fun h => ?_) (fun a b h hs => ?_)) <;> (try rw [h]) <;> (try simp only [zv_s] at h) <;> (try dsimp only at h)) | ((with_reducible refine splitT_of ?_ ?_); (focus (rfl))) | ((with_reducible refine splitF_of ?_ ?_); (focus (rfl))) | (with_reducible first | refine splitT ?_ | refine splitF ?_) | ((with_reducible refine splitM.mk (fun hsm => ?_) (fun hsm => ?_)) <;> (try exact zx)) | ((with_reducible refine splitB.mk (fun h => ?_) (fun h => ?_)) <;> (try simp only [zs, ne_eq] at h) <;> (try simp (disch := omega) only [w64] at h) <;> (try exact zx)) | (with_reducible intro hz; (try exact absurd hz (Nat.succ_ne_zero _)))))
              · rw [one_1 h]; exact ⟨rfl⟩
              · rename_i hr
                rw [one_2 hr h]; exact ⟨rfl⟩
              · rename_i hr
                refine ⟨[(a, b)], by simp, .inr (.inl ⟨(a, b), one_3 hr h, rfl⟩), ?_⟩
                (repeat' ((try (conv => whnf)); first | (with_reducible first | refine And.intro ?_ ?_ | refine WX.of ?_) | exact zc | ((with_reducible refine VC.mk ?_); exact zw) | with_reducible refine atL_p hLj ?_ | (with_reducible first | refine splitT ?_ | refine splitF ?_) | ((with_reducible refine splitM.mk (fun hsm => ?_) (fun hsm => ?_)) <;> (try exact zx)) | ((with_reducible refine splitB.mk (fun h => ?_) (fun h => ?_)) <;> (try simp only [zs, ne_eq] at h) <;> (try simp (disch := omega) only [w64] at h) <;> (try exact zx)) | (with_reducible intro hz; (try exact absurd hz (Nat.succ_ne_zero _)))))
                all_goals trace_state
            · (repeat' ((try (conv => whnf)); first | (with_reducible first | refine And.intro ?_ ?_ | refine WX.of ?_) | exact zc | ((with_reducible refine VC.mk ?_); exact zw) | with_reducible refine atL_p hLj ?_ | ((with_reducible refine VC.mk ?_); exact ⟨⟨rfl, hE2⟩, hE4, hwsc, hgg.2.2.2.1, hen⟩) | ((with_reducible refine VC.mk ?_); exact ⟨⟨fr, hLj⟩, ⟨⟨rfl, hE2⟩, hE4, hwsc, hgg.2.2.2.1, hen⟩⟩) | ((with_reducible refine VC.mk ?_); exact ⟨smF_ok (read_f (by assumption)), hst, (by omega)⟩) | ((with_reducible refine VC.mk ?_); exact ⟨⟨fr, hLj⟩, ⟨smF_ok (read_f (by assumption)), hst, (by omega)⟩⟩) | ((with_reducible refine splitE (enz_read _ _ _ _ _) (fun c h => ?_) (fun a h => ?_)) <;> (rw [h])) | ((with_reducible refine splitO (by first  |  exact okO_sb _ _  |  exact okO_mu _ _  |  exact okO_ad _ _  |  exact okO_dv _ _  |  exact okO_bind _ _ fun _ => okO_ad _ _  |  exact okO_sb _ _) (fun h => ?_) (fun a b h hs => ?_)) <;> (try rw [h]) <;> (try simp only [zv_s] at h) <;> (try dsimp only at h)) | ((with_reducible refine splitT_of ?_ ?_); (focus (rfl))) | ((with_reducible refine splitF_of ?_ ?_); (focus (rfl))) | (with_reducible first | refine splitT ?_ | refine splitF ?_) | ((with_reducible refine splitM.mk (fun hsm => ?_) (fun hsm => ?_)) <;> (try exact zx)) | ((with_reducible refine splitB.mk (fun h => ?_) (fun h => ?_)) <;> (try simp only [zs, ne_eq] at h) <;> (try simp (disch := omega) only [w64] at h) <;> (try exact zx)) | (with_reducible intro hz; (try exact absurd hz (Nat.succ_ne_zero _)))))
              · rw [h1, one_1 h]; exact ⟨rfl⟩
              · rename_i hr
                rw [h1, one_2 hr h]; exact ⟨rfl⟩
              · rename_i hr
                refine ⟨[d1, (a, b)], by simp, .inr (.inr ⟨d1, (a, b), h1, one_3 hr h, rfl⟩), ?_⟩
                (repeat' ((try (conv => whnf)); first | (with_reducible first | refine And.intro ?_ ?_ | refine WX.of ?_) | exact zc | ((with_reducible refine VC.mk ?_); exact zw) | with_reducible refine atL_p hLj ?_ | (with_reducible first | refine splitT ?_ | refine splitF ?_) | ((with_reducible refine splitM.mk (fun hsm => ?_) (fun hsm => ?_)) <;> (try exact zx)) | ((with_reducible refine splitB.mk (fun h => ?_) (fun h => ?_)) <;> (try simp only [zs, ne_eq] at h) <;> (try simp (disch := omega) only [w64] at h) <;> (try exact zx)) | (with_reducible intro hz; (try exact absurd hz (Nat.succ_ne_zero _)))))
                all_goals trace_state
            · rw [h1, h2]
              (repeat' ((try (conv => whnf)); first | (with_reducible first | refine And.intro ?_ ?_ | refine WX.of ?_) | exact zc | ((with_reducible refine VC.mk ?_); exact zw) | with_reducible refine atL_p hLj ?_ | ((with_reducible refine splitT_of ?_ ?_); (focus (rfl))) | ((with_reducible refine splitF_of ?_ ?_); (focus (rfl))) | (with_reducible first | refine splitT ?_ | refine splitF ?_) | ((with_reducible refine splitM.mk (fun hsm => ?_) (fun hsm => ?_)) <;> (try exact zx)) | ((with_reducible refine splitB.mk (fun h => ?_) (fun h => ?_)) <;> (try simp only [zs, ne_eq] at h) <;> (try simp (disch := omega) only [w64] at h) <;> (try exact zx)) | (with_reducible intro hz; (try exact absurd hz (Nat.succ_ne_zero _)))))
def s_l07Read1R (c : ShT) (d1 d2 : FrT) : Spec := fun args S => match args, S with
  | [.ptr 0 0 0, .ptr 1 j 0], [.box [.int .i64 up, .int .i64 uq, .sl 2 s n x, .int .i64 vp, .bool vb, .int .i64 gp, .int .i64 gq, .sl 3 t m y] true false, .arr (.prod (.prod (.int .i64) (.prod (.prod (.int .i64) (.int .i64)) (.prod (.int .i64) (.int .i64)))) (.prod (.prod (.int .i64) (.int .i64)) (.prod (.prod (.int .i64) (.int .i64)) (.prod (.prod (.int .i64) (.int .i64)) (.prod (.prod (.int .i64) (.int .i64)) (.prod (.int .i64) (.int .i64))))))) L sz wR, .arr (.prod (.int .i64) (.int .i64)) l 2 wr, .arr (.prod .str (.prod (.prod (.int .i64) (.int .i64)) (.prod (.int .i64) (.int .i64)))) T 5 wT] => ⟨(∃ fr : FrT × FrT × FrT × FrT × FrT, L[j]? = some (c, fr)) ∧ ((((s + n ≤ l.length ∧ n ≤ 1048576) ∧ t + m ≤ T.length ∧ m ≤ 1048576) ∧ bnB up uq vp gp gq (seg l s n) (seg T t m) = true ∧ shB m c = true) ∧ endsE (up, uq) (seg l s n) vp vb (gp, gq) (seg T t m) c = .ok (d1, d2)), .tup [.agg [.int .i64 d1.1, .int .i64 d1.2], .agg [.int .i64 d2.1, .int .i64 d2.2], .int .i64 0], [.box [.int .i64 up, .int .i64 uq, .sl 2 s n x, .int .i64 vp, .bool vb, .int .i64 gp, .int .i64 gq, .sl 3 t m y] true false, .arr (.prod (.prod (.int .i64) (.prod (.prod (.int .i64) (.int .i64)) (.prod (.int .i64) (.int .i64)))) (.prod (.prod (.int .i64) (.int .i64)) (.prod (.prod (.int .i64) (.int .i64)) (.prod (.prod (.int .i64) (.int .i64)) (.prod (.prod (.int .i64) (.int .i64)) (.prod (.int .i64) (.int .i64))))))) L sz wR, .arr (.prod (.int .i64) (.int .i64)) l 2 wr, .arr (.prod .str (.prod (.prod (.int .i64) (.int .i64)) (.prod (.int .i64) (.int .i64)))) T 5 wT]⟩
  | _, _ => noSpec
theorem ok_l07Read1R (c : ShT) (d1 d2 : FrT) : SpecOk Tryz.prog 157 (s_l07Read1R c d1 d2) := by
  intro args S h; unfold s_l07Read1R at h ⊢; (split at h <;> first | exact False.elim h | skip)
  dsimp only at h ⊢
  rename_i j up uq s n x vp vb gp gq t m y L sz wR l wr T wT
  obtain ⟨⟨fr, hLj⟩, h⟩ := h
  have h2 := ok_l07ReadR c [.ptr 0 0 0, .ptr 1 j 0] [.box [.int .i64 up, .int .i64 uq, .sl 2 s n x, .int .i64 vp, .bool vb, .int .i64 gp, .int .i64 gq, .sl 3 t m y] true false, .arr (.prod (.prod (.int .i64) (.prod (.prod (.int .i64) (.int .i64)) (.prod (.int .i64) (.int .i64)))) (.prod (.prod (.int .i64) (.int .i64)) (.prod (.prod (.int .i64) (.int .i64)) (.prod (.prod (.int .i64) (.int .i64)) (.prod (.prod (.int .i64) (.int .i64)) (.prod (.int .i64) (.int .i64))))))) L sz wR, .arr (.prod (.int .i64) (.int .i64)) l 2 wr, .arr (.prod .str (.prod (.prod (.int .i64) (.int .i64)) (.prod (.int .i64) (.int .i64)))) T 5 wT] ⟨⟨fr, hLj⟩, h.1⟩
  simp only [s_l07ReadR, h.2, e2V, eV, eC] at h2
  exact h2
def s_l07Read0R (c : ShT) (k : Int) : Spec := fun args S => match args, S with
  | [.ptr 0 0 0, .ptr 1 j 0], [.box [.int .i64 up, .int .i64 uq, .sl 2 s n x, .int .i64 vp, .bool vb, .int .i64 gp, .int .i64 gq, .sl 3 t m y] true false, .arr (.prod (.prod (.int .i64) (.prod (.prod (.int .i64) (.int .i64)) (.prod (.int .i64) (.int .i64)))) (.prod (.prod (.int .i64) (.int .i64)) (.prod (.prod (.int .i64) (.int .i64)) (.prod (.prod (.int .i64) (.int .i64)) (.prod (.prod (.int .i64) (.int .i64)) (.prod (.int .i64) (.int .i64))))))) L sz wR, .arr (.prod (.int .i64) (.int .i64)) l 2 wr, .arr (.prod .str (.prod (.prod (.int .i64) (.int .i64)) (.prod (.int .i64) (.int .i64)))) T 5 wT] => ⟨(∃ fr : FrT × FrT × FrT × FrT × FrT, L[j]? = some (c, fr)) ∧ ((((s + n ≤ l.length ∧ n ≤ 1048576) ∧ t + m ≤ T.length ∧ m ≤ 1048576) ∧ bnB up uq vp gp gq (seg l s n) (seg T t m) = true ∧ shB m c = true) ∧ endsE (up, uq) (seg l s n) vp vb (gp, gq) (seg T t m) c = .error k), .tup [.agg [.int .i64 0, .int .i64 0], .agg [.int .i64 0, .int .i64 0], .int .i64 k], [.box [.int .i64 up, .int .i64 uq, .sl 2 s n x, .int .i64 vp, .bool vb, .int .i64 gp, .int .i64 gq, .sl 3 t m y] true false, .arr (.prod (.prod (.int .i64) (.prod (.prod (.int .i64) (.int .i64)) (.prod (.int .i64) (.int .i64)))) (.prod (.prod (.int .i64) (.int .i64)) (.prod (.prod (.int .i64) (.int .i64)) (.prod (.prod (.int .i64) (.int .i64)) (.prod (.prod (.int .i64) (.int .i64)) (.prod (.int .i64) (.int .i64))))))) L sz wR, .arr (.prod (.int .i64) (.int .i64)) l 2 wr, .arr (.prod .str (.prod (.prod (.int .i64) (.int .i64)) (.prod (.int .i64) (.int .i64)))) T 5 wT]⟩
  | _, _ => noSpec
theorem ok_l07Read0R (c : ShT) (k : Int) : SpecOk Tryz.prog 157 (s_l07Read0R c k) := by
  intro args S h; unfold s_l07Read0R at h ⊢; (split at h <;> first | exact False.elim h | skip)
  dsimp only at h ⊢
  rename_i j up uq s n x vp vb gp gq t m y L sz wR l wr T wT
  obtain ⟨⟨fr, hLj⟩, h⟩ := h
  have h2 := ok_l07ReadR c [.ptr 0 0 0, .ptr 1 j 0] [.box [.int .i64 up, .int .i64 uq, .sl 2 s n x, .int .i64 vp, .bool vb, .int .i64 gp, .int .i64 gq, .sl 3 t m y] true false, .arr (.prod (.prod (.int .i64) (.prod (.prod (.int .i64) (.int .i64)) (.prod (.int .i64) (.int .i64)))) (.prod (.prod (.int .i64) (.int .i64)) (.prod (.prod (.int .i64) (.int .i64)) (.prod (.prod (.int .i64) (.int .i64)) (.prod (.prod (.int .i64) (.int .i64)) (.prod (.int .i64) (.int .i64))))))) L sz wR, .arr (.prod (.int .i64) (.int .i64)) l 2 wr, .arr (.prod .str (.prod (.prod (.int .i64) (.int .i64)) (.prod (.int .i64) (.int .i64)))) T 5 wT] ⟨⟨fr, hLj⟩, h.1⟩
  simp only [s_l07ReadR, h.2, e2V, eV, eC] at h2
  exact h2
def s_l07TakeR (c : ShT) : Spec := fun args S => match args, S with
  | [.ptr 0 0 0, .ptr 1 j 0], [.box [.int .i64 up, .int .i64 uq, .sl 2 s n x, .int .i64 vp, .bool vb, .int .i64 gp, .int .i64 gq, .sl 3 t m y] true false, .arr (.prod (.prod (.int .i64) (.prod (.prod (.int .i64) (.int .i64)) (.prod (.int .i64) (.int .i64)))) (.prod (.prod (.int .i64) (.int .i64)) (.prod (.prod (.int .i64) (.int .i64)) (.prod (.prod (.int .i64) (.int .i64)) (.prod (.prod (.int .i64) (.int .i64)) (.prod (.int .i64) (.int .i64))))))) L sz wR, .arr (.prod (.int .i64) (.int .i64)) l 2 wr, .arr (.prod .str (.prod (.prod (.int .i64) (.int .i64)) (.prod (.int .i64) (.int .i64)))) T 5 wT] => ⟨(∃ fr : FrT × FrT × FrT × FrT × FrT, L[j]? = some (c, fr)) ∧ (((s + n ≤ l.length ∧ n ≤ 1048576) ∧ t + m ≤ T.length ∧ m ≤ 1048576) ∧ bnB up uq vp gp gq (seg l s n) (seg T t m) = true ∧ shB m c = true), .tup [.agg [.int .i64 (tkV (taE (up, uq) (seg l s n) vp vb (gp, gq) (seg T t m) c)).1.1, .int .i64 (tkV (taE (up, uq) (seg l s n) vp vb (gp, gq) (seg T t m) c)).1.2.1.1, .int .i64 (tkV (taE (up, uq) (seg l s n) vp vb (gp, gq) (seg T t m) c)).1.2.1.2, .int .i64 (tkV (taE (up, uq) (seg l s n) vp vb (gp, gq) (seg T t m) c)).1.2.2.1, .int .i64 (tkV (taE (up, uq) (seg l s n) vp vb (gp, gq) (seg T t m) c)).1.2.2.2, .int .i64 (tkV (taE (up, uq) (seg l s n) vp vb (gp, gq) (seg T t m) c)).2.1.1, .int .i64 (tkV (taE (up, uq) (seg l s n) vp vb (gp, gq) (seg T t m) c)).2.1.2, .int .i64 (tkV (taE (up, uq) (seg l s n) vp vb (gp, gq) (seg T t m) c)).2.2.1.1, .int .i64 (tkV (taE (up, uq) (seg l s n) vp vb (gp, gq) (seg T t m) c)).2.2.1.2, .int .i64 (tkV (taE (up, uq) (seg l s n) vp vb (gp, gq) (seg T t m) c)).2.2.2.1.1, .int .i64 (tkV (taE (up, uq) (seg l s n) vp vb (gp, gq) (seg T t m) c)).2.2.2.1.2, .int .i64 (tkV (taE (up, uq) (seg l s n) vp vb (gp, gq) (seg T t m) c)).2.2.2.2.1.1, .int .i64 (tkV (taE (up, uq) (seg l s n) vp vb (gp, gq) (seg T t m) c)).2.2.2.2.1.2, .int .i64 (tkV (taE (up, uq) (seg l s n) vp vb (gp, gq) (seg T t m) c)).2.2.2.2.2.1, .int .i64 (tkV (taE (up, uq) (seg l s n) vp vb (gp, gq) (seg T t m) c)).2.2.2.2.2.2], .int .i64 (eC (taE (up, uq) (seg l s n) vp vb (gp, gq) (seg T t m) c))], [.box [.int .i64 up, .int .i64 uq, .sl 2 s n x, .int .i64 vp, .bool vb, .int .i64 gp, .int .i64 gq, .sl 3 t m y] true false, .arr (.prod (.prod (.int .i64) (.prod (.prod (.int .i64) (.int .i64)) (.prod (.int .i64) (.int .i64)))) (.prod (.prod (.int .i64) (.int .i64)) (.prod (.prod (.int .i64) (.int .i64)) (.prod (.prod (.int .i64) (.int .i64)) (.prod (.prod (.int .i64) (.int .i64)) (.prod (.int .i64) (.int .i64))))))) L sz wR, .arr (.prod (.int .i64) (.int .i64)) l 2 wr, .arr (.prod .str (.prod (.prod (.int .i64) (.int .i64)) (.prod (.int .i64) (.int .i64)))) T 5 wT]⟩
  | _, _ => noSpec
attribute [local irreducible] endsE lnT opT bnB shB taE in
set_option maxHeartbeats 3200000 in
theorem ok_l07TakeR (c : ShT) : SpecOk Tryz.prog 130 (s_l07TakeR c) := by
  intro args S h; unfold s_l07TakeR at h ⊢; (split at h <;> first | exact False.elim h | skip)
  dsimp only at h ⊢
  rename_i j up uq s n x vp vb gp gq t m y L sz wR l wr T wT
  obtain ⟨⟨fr, hLj⟩, h⟩ := h
  have hq := h
  rcases ta_c (up, uq) (seg l s n) vp vb (gp, gq) (seg T t m) c with ⟨k, hk, hr, hE⟩ | ⟨d1, d2, hr, hcc⟩
  · rw [hE]
    have hcn : decide (k ≠ 0) = true := decide_eq_true hk
    refine funW tabOk (E := [(157, (s_l07Read0R c k))]) ⟨(ok_l07Read0R c k), trivial⟩ [] (k := 4) (fn := Tryz.f130) rfl rfl rfl rfl rfl rfl ?_
    (repeat' ((try (conv => whnf)); first | (with_reducible first | refine And.intro ?_ ?_ | refine WX.of ?_) | exact zc | ((with_reducible refine VC.mk ?_); exact zw) | with_reducible refine atL_p hLj ?_ | ((with_reducible refine splitT_of ?_ ?_); (focus (simp only [hcn, Bool.not_true, Bool.not_false, decide_true, decide_false]; done))) | ((with_reducible refine splitF_of ?_ ?_); (focus (simp only [hcn, Bool.not_true, Bool.not_false, decide_true, decide_false]; done))) | ((with_reducible refine VC.mk ?_); exact ⟨hq, hr⟩) | ((with_reducible refine VC.mk ?_); exact ⟨⟨fr, hLj⟩, ⟨hq, hr⟩⟩) | (with_reducible first | refine splitT ?_ | refine splitF ?_) | ((with_reducible refine splitM.mk (fun hsm => ?_) (fun hsm => ?_)) <;> (try exact zx)) | ((with_reducible refine splitB.mk (fun h => ?_) (fun h => ?_)) <;> (try simp only [zs, ne_eq] at h) <;> (try simp (disch := omega) only [w64] at h) <;> (try exact zx)) | (with_reducible intro hz; (try exact absurd hz (Nat.succ_ne_zero _)))))
  · have hf := ends_f hr
    have hf1 := smF_ok hf.1
    have hf2 := smF_ok hf.2
    refine funW tabOk (E := [(157, (s_l07Read1R c d1 d2)), (158, (s_l07LengthR c)), (159, (s_l07OpenR c))]) ⟨(ok_l07Read1R c d1 d2), (ok_l07LengthR c), (ok_l07OpenR c), trivial⟩ [] (k := 4) (fn := Tryz.f130) rfl rfl rfl rfl rfl rfl ?_
    (repeat' ((try (conv => whnf)); first | (with_reducible first | refine And.intro ?_ ?_ | refine WX.of ?_) | exact zc | ((with_reducible refine VC.mk ?_); exact zw) | with_reducible refine atL_p hLj ?_ | ((with_reducible refine VC.mk ?_); exact ⟨hq, hr⟩) | ((with_reducible refine VC.mk ?_); exact ⟨⟨fr, hLj⟩, ⟨hq, hr⟩⟩) | ((with_reducible refine VC.mk ?_); exact ⟨hq.1.2, hq.2.1, hq.2.2, hf1, hf2⟩) | ((with_reducible refine VC.mk ?_); exact ⟨⟨fr, hLj⟩, ⟨hq.1.2, hq.2.1, hq.2.2, hf1, hf2⟩⟩) | ((with_reducible refine VC.mk ?_); exact ⟨hq.1, hq.2.1, hq.2.2, hf1, hf2⟩) | ((with_reducible refine VC.mk ?_); exact ⟨⟨fr, hLj⟩, ⟨hq.1, hq.2.1, hq.2.2, hf1, hf2⟩⟩) | ((with_reducible refine splitO (by first  |  exact okO_sb _ _  |  exact okO_mu _ _  |  exact okO_ad _ _  |  exact okO_dv _ _  |  exact okO_bind _ _ fun _ => okO_ad _ _  |  exact okO_ln2 _ _ _ _ _) (fun h => ?_) (fun a b h hs => ?_)) <;> (try rw [h]) <;> (try simp only [zv_s] at h) <;> (try dsimp only at h)) | ((with_reducible refine splitOS (fun h => ?_) (fun a b h => ?_)) <;> (try rw [h])) | (with_reducible first | refine splitT ?_ | refine splitF ?_) | ((with_reducible refine splitM.mk (fun hsm => ?_) (fun hsm => ?_)) <;> (try exact zx)) | ((with_reducible refine splitB.mk (fun h => ?_) (fun h => ?_)) <;> (try simp only [zs, ne_eq] at h) <;> (try simp (disch := omega) only [w64] at h) <;> (try exact zx)) | (with_reducible intro hz; (try exact absurd hz (Nat.succ_ne_zero _)))))
    all_goals refine ⟨?_⟩
    · rcases hcc with ⟨_, hE⟩ | ⟨len, hl, _⟩
      · rw [hE]; rfl
      · rw [hl] at h; cases h
    · rename_i hl
      rcases hcc with ⟨hl2, _⟩ | ⟨len, hl2, hcc⟩
      · rw [hl2] at hl; cases hl
      · rcases hcc with ⟨_, hE⟩ | ⟨a, b, ho, _⟩
        · rw [hE]; rfl
        · rw [ho] at h; cases h
    · rename_i hl
      rcases hcc with ⟨hl2, _⟩ | ⟨len, hl2, hcc⟩
      · rw [hl2] at hl; cases hl
      · rcases hcc with ⟨ho, _⟩ | ⟨a, b, ho, hE⟩
        · rw [ho] at h; cases h
        · rw [hl2] at hl; cases hl
          rw [ho] at h; cases h
          rw [hE]; rfl
end Go.Proofs.YtonnkpclllmkoaaGreat.Eng
set_option linter.unusedVariables false
set_option linter.unusedSimpArgs false
namespace Go.Proofs.YtonnkpclllmkoaaGreat.Eng
open Go Go.RowKit
set_option maxRecDepth 100000
/-- A report is accepted. -/
def accB (u : FrT) (E : List FrT) (vp : Int) (vb : Bool) (g : FrT) (T : List ThT) (r : RpT) : Bool := match tkE (shB T.length r.1) u E vp vb g T r.1 with | .ok own => decide (own = r) | .error _ => false
theorem acc_1 {u : FrT} {E : List FrT} {vp : Int} {vb : Bool} {g : FrT} {T : List ThT} {r own : RpT} {ok : Bool} (hk : ok = shB T.length r.1) (h : tkE ok u E vp vb g T r.1 = .ok own) : accB u E vp vb g T r = decide (own = r) := by unfold accB; rw [← hk, h]
theorem acc_0 {u : FrT} {E : List FrT} {vp : Int} {vb : Bool} {g : FrT} {T : List ThT} {r : RpT} {k : Int} {ok : Bool} (hk : ok = shB T.length r.1) (h : tkE ok u E vp vb g T r.1 = .error k) : accB u E vp vb g T r = false := by unfold accB; rw [← hk, h]
theorem enz_take {ok : Bool} {u : FrT} {E : List FrT} {vp : Int} {vb : Bool} {g : FrT} {T : List ThT} {c : ShT} : ENZ (tkE ok u E vp vb g T c) := by
  unfold tkE
  split
  · unfold taE
    refine enz_bind enz_ends fun _ => enz_bind (enz_ofO _) fun _ => enz_bind ?_ fun _ => enz_ok _
    split
    · exact enz_ok _
    · exact enz_er (by decide)
  · exact enz_er (by decide)
def s_tk1 (own : RpT) : Spec := fun args S => match args, S with
  | [.agg [.int .i64 up, .int .i64 uq, .sl 0 s n x, .int .i64 vp, .bool vb, .int .i64 gp, .int .i64 gq, .sl 1 t m y], .agg [.int .i64 i, .int .i64 wp, .int .i64 wq, .int .i64 sp, .int .i64 sq]], [.arr (.prod (.int .i64) (.int .i64)) l 2 wr, .arr (.prod .str (.prod (.prod (.int .i64) (.int .i64)) (.prod (.int .i64) (.int .i64)))) T 5 wT] => ⟨((s + n ≤ l.length ∧ n ≤ 1048576) ∧ (t + m ≤ T.length ∧ m ≤ 1048576) ∧ ∀ (j : Nat) (a : ThT), T[j]? = some a → a.1.length < 9223372036854775808) ∧ tkE (bnB up uq vp gp gq (seg l s n) (seg T t m) && shB m (i, (wp, wq), sp, sq)) (up, uq) (seg l s n) vp vb (gp, gq) (seg T t m) (i, (wp, wq), sp, sq) = .ok own, .tup [.agg [.int .i64 own.1.1, .int .i64 own.1.2.1.1, .int .i64 own.1.2.1.2, .int .i64 own.1.2.2.1, .int .i64 own.1.2.2.2, .int .i64 own.2.1.1, .int .i64 own.2.1.2, .int .i64 own.2.2.1.1, .int .i64 own.2.2.1.2, .int .i64 own.2.2.2.1.1, .int .i64 own.2.2.2.1.2, .int .i64 own.2.2.2.2.1.1, .int .i64 own.2.2.2.2.1.2, .int .i64 own.2.2.2.2.2.1, .int .i64 own.2.2.2.2.2.2], .int .i64 0], [.arr (.prod (.int .i64) (.int .i64)) l 2 wr, .arr (.prod .str (.prod (.prod (.int .i64) (.int .i64)) (.prod (.int .i64) (.int .i64)))) T 5 wT]⟩
  | _, _ => noSpec
theorem ok_tk1 (own : RpT) : SpecOk Tryz.prog 139 (s_tk1 own) := by
  intro args S h; unfold s_tk1 at h ⊢; (split at h <;> first | exact False.elim h | skip)
  dsimp only at h ⊢
  rename_i up uq s n x vp vb gp gq t m y i wp wq sp sq l wr T wT
  have h2 := ok_TakeReportI [.agg [.int .i64 up, .int .i64 uq, .sl 0 s n x, .int .i64 vp, .bool vb, .int .i64 gp, .int .i64 gq, .sl 1 t m y], .agg [.int .i64 i, .int .i64 wp, .int .i64 wq, .int .i64 sp, .int .i64 sq]] [.arr (.prod (.int .i64) (.int .i64)) l 2 wr, .arr (.prod .str (.prod (.prod (.int .i64) (.int .i64)) (.prod (.int .i64) (.int .i64)))) T 5 wT] h.1
  simp only [s_take, h.2, tkV, eV, eC] at h2
  exact h2
def s_tk0 (k : Int) : Spec := fun args S => match args, S with
  | [.agg [.int .i64 up, .int .i64 uq, .sl 0 s n x, .int .i64 vp, .bool vb, .int .i64 gp, .int .i64 gq, .sl 1 t m y], .agg [.int .i64 i, .int .i64 wp, .int .i64 wq, .int .i64 sp, .int .i64 sq]], [.arr (.prod (.int .i64) (.int .i64)) l 2 wr, .arr (.prod .str (.prod (.prod (.int .i64) (.int .i64)) (.prod (.int .i64) (.int .i64)))) T 5 wT] => ⟨((s + n ≤ l.length ∧ n ≤ 1048576) ∧ (t + m ≤ T.length ∧ m ≤ 1048576) ∧ ∀ (j : Nat) (a : ThT), T[j]? = some a → a.1.length < 9223372036854775808) ∧ tkE (bnB up uq vp gp gq (seg l s n) (seg T t m) && shB m (i, (wp, wq), sp, sq)) (up, uq) (seg l s n) vp vb (gp, gq) (seg T t m) (i, (wp, wq), sp, sq) = .error k, .tup [.agg [.int .i64 rp0.1.1, .int .i64 rp0.1.2.1.1, .int .i64 rp0.1.2.1.2, .int .i64 rp0.1.2.2.1, .int .i64 rp0.1.2.2.2, .int .i64 rp0.2.1.1, .int .i64 rp0.2.1.2, .int .i64 rp0.2.2.1.1, .int .i64 rp0.2.2.1.2, .int .i64 rp0.2.2.2.1.1, .int .i64 rp0.2.2.2.1.2, .int .i64 rp0.2.2.2.2.1.1, .int .i64 rp0.2.2.2.2.1.2, .int .i64 rp0.2.2.2.2.2.1, .int .i64 rp0.2.2.2.2.2.2], .int .i64 k], [.arr (.prod (.int .i64) (.int .i64)) l 2 wr, .arr (.prod .str (.prod (.prod (.int .i64) (.int .i64)) (.prod (.int .i64) (.int .i64)))) T 5 wT]⟩
  | _, _ => noSpec
theorem ok_tk0 (k : Int) : SpecOk Tryz.prog 139 (s_tk0 k) := by
  intro args S h; unfold s_tk0 at h ⊢; (split at h <;> first | exact False.elim h | skip)
  dsimp only at h ⊢
  rename_i up uq s n x vp vb gp gq t m y i wp wq sp sq l wr T wT
  have h2 := ok_TakeReportI [.agg [.int .i64 up, .int .i64 uq, .sl 0 s n x, .int .i64 vp, .bool vb, .int .i64 gp, .int .i64 gq, .sl 1 t m y], .agg [.int .i64 i, .int .i64 wp, .int .i64 wq, .int .i64 sp, .int .i64 sq]] [.arr (.prod (.int .i64) (.int .i64)) l 2 wr, .arr (.prod .str (.prod (.prod (.int .i64) (.int .i64)) (.prod (.int .i64) (.int .i64)))) T 5 wT] h.1
  simp only [s_take, h.2, tkV, eV, eC] at h2
  exact h2
def s_chk : Spec := fun args S => match args, S with
  | [.agg [.int .i64 up, .int .i64 uq, .sl 0 s n x, .int .i64 vp, .bool vb, .int .i64 gp, .int .i64 gq, .sl 1 t m y], .agg [.int .i64 i, .int .i64 wp, .int .i64 wq, .int .i64 sp, .int .i64 sq, .int .i64 fp, .int .i64 fq, .int .i64 kp, .int .i64 kq, .int .i64 lp, .int .i64 lq, .int .i64 ap, .int .i64 aq, .int .i64 zp, .int .i64 zq]], [.arr (.prod (.int .i64) (.int .i64)) l 2 wr, .arr (.prod .str (.prod (.prod (.int .i64) (.int .i64)) (.prod (.int .i64) (.int .i64)))) T 5 wT] => ⟨(s + n ≤ l.length ∧ n ≤ 1048576) ∧ (t + m ≤ T.length ∧ m ≤ 1048576) ∧ ∀ (j : Nat) (a : ThT), T[j]? = some a → a.1.length < 9223372036854775808, .tup [.bool (bnB up uq vp gp gq (seg l s n) (seg T t m) && accB (up, uq) (seg l s n) vp vb (gp, gq) (seg T t m) ((i, (wp, wq), sp, sq), (fp, fq), (kp, kq), (lp, lq), (ap, aq), zp, zq)), .int .i64 (if bnB up uq vp gp gq (seg l s n) (seg T t m) = true then 0 else 1)], [.arr (.prod (.int .i64) (.int .i64)) l 2 wr, .arr (.prod .str (.prod (.prod (.int .i64) (.int .i64)) (.prod (.int .i64) (.int .i64)))) T 5 wT]⟩
  | _, _ => noSpec
attribute [local irreducible] bnB shB taE in
set_option maxHeartbeats 3200000 in
theorem ok_CheckReportI : SpecOk Tryz.prog 83 s_chk := by
  intro args S h; unfold s_chk at h ⊢; (split at h <;> first | exact False.elim h | skip)
  dsimp only at h ⊢
  rename_i up uq s n x vp vb gp gq t m y i wp wq sp sq fp fq kp kq lp lq ap aq zp zq l wr T wT
  have hq := h
  have hM := seg_len h.2.1.1
  cases hb : bnB up uq vp gp gq (seg l s n) (seg T t m) with
  | false =>
    refine funW tabOk (E := [(82, s_vBench)]) ⟨ok_ValidBenchI, trivial⟩ [] (k := 2) (fn := Tryz.f83) rfl rfl rfl rfl rfl rfl ?_
    (repeat' ((try (conv => whnf)); first | (with_reducible first | refine And.intro ?_ ?_ | refine WX.of ?_) | exact zc | ((with_reducible refine VC.mk ?_); exact zw) | ((with_reducible refine splitT_of ?_ ?_); (focus (simp only [hb, Bool.not_true, Bool.not_false, decide_true, decide_false]; done))) | ((with_reducible refine splitF_of ?_ ?_); (focus (simp only [hb, Bool.not_true, Bool.not_false, decide_true, decide_false]; done))) | ((with_reducible refine VC.mk ?_); exact hq) | (with_reducible first | refine splitT ?_ | refine splitF ?_) | ((with_reducible refine splitM.mk (fun hsm => ?_) (fun hsm => ?_)) <;> (try exact zx)) | ((with_reducible refine splitB.mk (fun h => ?_) (fun h => ?_)) <;> (try simp only [zs, ne_eq] at h) <;> (try simp (disch := omega) only [w64] at h) <;> (try exact zx)) | (with_reducible intro hz; (try exact absurd hz (Nat.succ_ne_zero _)))))
  | true =>
    have hk : (bnB up uq vp gp gq (seg l s n) (seg T t m) && shB m (i, (wp, wq), sp, sq)) = shB (seg T t m).length (i, (wp, wq), sp, sq) := by rw [hb, hM]; rfl
    cases hR : tkE (bnB up uq vp gp gq (seg l s n) (seg T t m) && shB m (i, (wp, wq), sp, sq)) (up, uq) (seg l s n) vp vb (gp, gq) (seg T t m) (i, (wp, wq), sp, sq) with
    | error k =>
      rw [acc_0 (r := ((i, (wp, wq), sp, sq), (fp, fq), (kp, kq), (lp, lq), (ap, aq), zp, zq)) hk hR]
      have hcn : decide (k = 0) = false := decide_eq_false (enz_take _ hR)
      refine funW tabOk (E := [(82, s_vBench), (139, (s_tk0 k))]) ⟨ok_ValidBenchI, (ok_tk0 k), trivial⟩ [] (k := 2) (fn := Tryz.f83) rfl rfl rfl rfl rfl rfl ?_
      (repeat' ((try (conv => whnf)); first | (with_reducible first | refine And.intro ?_ ?_ | refine WX.of ?_) | exact zc | ((with_reducible refine VC.mk ?_); exact zw) | ((with_reducible refine splitT_of ?_ ?_); (focus (simp only [hb, hcn, Bool.not_true, Bool.not_false, decide_true, decide_false]; done))) | ((with_reducible refine splitF_of ?_ ?_); (focus (simp only [hb, hcn, Bool.not_true, Bool.not_false, decide_true, decide_false]; done))) | ((with_reducible refine VC.mk ?_); exact hq) | ((with_reducible refine VC.mk ?_); exact ⟨hq, hR⟩) | (with_reducible first | refine splitT ?_ | refine splitF ?_) | ((with_reducible refine splitM.mk (fun hsm => ?_) (fun hsm => ?_)) <;> (try exact zx)) | ((with_reducible refine splitB.mk (fun h => ?_) (fun h => ?_)) <;> (try simp only [zs, ne_eq] at h) <;> (try simp (disch := omega) only [w64] at h) <;> (try exact zx)) | (with_reducible intro hz; (try exact absurd hz (Nat.succ_ne_zero _)))))
    | ok own =>
      rw [acc_1 (r := ((i, (wp, wq), sp, sq), (fp, fq), (kp, kq), (lp, lq), (ap, aq), zp, zq)) hk hR]
      obtain ⟨⟨i', ⟨wp', wq'⟩, sp', sq'⟩, ⟨fp', fq'⟩, ⟨kp', kq'⟩, ⟨lp', lq'⟩, ⟨ap', aq'⟩, zp', zq'⟩ := own
      refine funW tabOk (E := [(82, s_vBench), (139, (s_tk1 ((i', (wp', wq'), sp', sq'), (fp', fq'), (kp', kq'), (lp', lq'), (ap', aq'), zp', zq')))]) ⟨ok_ValidBenchI, (ok_tk1 ((i', (wp', wq'), sp', sq'), (fp', fq'), (kp', kq'), (lp', lq'), (ap', aq'), zp', zq')), trivial⟩ [] (k := 2) (fn := Tryz.f83) rfl rfl rfl rfl rfl rfl ?_
      (repeat' ((try (conv => whnf)); first | (with_reducible first | refine And.intro ?_ ?_ | refine WX.of ?_) | exact zc | ((with_reducible refine VC.mk ?_); exact zw) | ((with_reducible refine splitT_of ?_ ?_); (focus (simp only [hb, Bool.not_true, Bool.not_false, decide_true, decide_false]; done))) | ((with_reducible refine splitF_of ?_ ?_); (focus (simp only [hb, Bool.not_true, Bool.not_false, decide_true, decide_false]; done))) | ((with_reducible refine VC.mk ?_); exact hq) | ((with_reducible refine VC.mk ?_); exact ⟨hq, hR⟩) | (with_reducible first | refine splitT ?_ | refine splitF ?_) | ((with_reducible refine splitM.mk (fun hsm => ?_) (fun hsm => ?_)) <;> (try exact zx)) | ((with_reducible refine splitB.mk (fun h => ?_) (fun h => ?_)) <;> (try simp only [zs, ne_eq] at h) <;> (try simp (disch := omega) only [w64] at h) <;> (try exact zx)) | (with_reducible intro hz; (try exact absurd hz (Nat.succ_ne_zero _)))))
      all_goals (refine ⟨?_⟩; dsimp only; simp only [Prod.mk.injEq, Bool.decide_and, Bool.and_assoc, Bool.true_and, if_true])
def s_acc (r : RpT) : Spec := fun args S => match args, S with
  | [.ptr 0 0 0, .ptr 1 j 0], [.box [.int .i64 up, .int .i64 uq, .sl 2 s n x, .int .i64 vp, .bool vb, .int .i64 gp, .int .i64 gq, .sl 3 t m y] true false, .arr (.prod (.prod (.int .i64) (.prod (.prod (.int .i64) (.int .i64)) (.prod (.int .i64) (.int .i64)))) (.prod (.prod (.int .i64) (.int .i64)) (.prod (.prod (.int .i64) (.int .i64)) (.prod (.prod (.int .i64) (.int .i64)) (.prod (.prod (.int .i64) (.int .i64)) (.prod (.int .i64) (.int .i64))))))) L sz wR, .arr (.prod (.int .i64) (.int .i64)) l 2 wr, .arr (.prod .str (.prod (.prod (.int .i64) (.int .i64)) (.prod (.int .i64) (.int .i64)))) T 5 wT] => ⟨((s + n ≤ l.length ∧ n ≤ 1048576) ∧ t + m ≤ T.length ∧ m ≤ 1048576) ∧ bnB up uq vp gp gq (seg l s n) (seg T t m) = true ∧ L[j]? = some r, .bool (accB (up, uq) (seg l s n) vp vb (gp, gq) (seg T t m) r), [.box [.int .i64 up, .int .i64 uq, .sl 2 s n x, .int .i64 vp, .bool vb, .int .i64 gp, .int .i64 gq, .sl 3 t m y] true false, .arr (.prod (.prod (.int .i64) (.prod (.prod (.int .i64) (.int .i64)) (.prod (.int .i64) (.int .i64)))) (.prod (.prod (.int .i64) (.int .i64)) (.prod (.prod (.int .i64) (.int .i64)) (.prod (.prod (.int .i64) (.int .i64)) (.prod (.prod (.int .i64) (.int .i64)) (.prod (.int .i64) (.int .i64))))))) L sz wR, .arr (.prod (.int .i64) (.int .i64)) l 2 wr, .arr (.prod .str (.prod (.prod (.int .i64) (.int .i64)) (.prod (.int .i64) (.int .i64)))) T 5 wT]⟩
  | _, _ => noSpec
attribute [local irreducible] bnB shB taE in
set_option maxHeartbeats 3200000 in
theorem ok_l07Accepted (r : RpT) : SpecOk Tryz.prog 72 (s_acc r) := by
  intro args S h; unfold s_acc at h ⊢; (split at h <;> first | exact False.elim h | skip)
  dsimp only at h ⊢
  rename_i j up uq s n x vp vb gp gq t m y L sz wR l wr T wT
  obtain ⟨h1, hb, hLj⟩ := h
  have hM := seg_len h1.2.1
  obtain ⟨⟨i, ⟨wp, wq⟩, sp, sq⟩, ⟨fp, fq⟩, ⟨kp, kq⟩, ⟨lp, lq⟩, ⟨ap, aq⟩, zp, zq⟩ := r
  have hk : shB m (i, (wp, wq), sp, sq) = shB (seg T t m).length (i, (wp, wq), sp, sq) := by rw [hM]
  cases hs : shB m (i, (wp, wq), sp, sq) with
  | false =>
    rw [acc_0 (k := 1) hk (by unfold tkE; rw [hs]; rfl)]
    refine funW tabOk (E := [(129, (s_l07ShotR (i, (wp, wq), sp, sq)))]) ⟨(ok_l07ShotR (i, (wp, wq), sp, sq)), trivial⟩ [] (k := 4) (fn := Tryz.f72) rfl rfl rfl rfl rfl rfl ?_
    (repeat' ((try (conv => whnf)); first | (with_reducible first | refine And.intro ?_ ?_ | refine WX.of ?_) | exact zc | ((with_reducible refine VC.mk ?_); exact zw) | ((with_reducible refine splitT_of ?_ ?_); (focus (simp only [hs, Bool.not_true, Bool.not_false, decide_true, decide_false]; done))) | ((with_reducible refine splitF_of ?_ ?_); (focus (simp only [hs, Bool.not_true, Bool.not_false, decide_true, decide_false]; done))) | ((with_reducible refine VC.mk ?_); exact ⟨⟨_, hLj⟩, h1.2.2⟩) | (with_reducible first | refine splitT ?_ | refine splitF ?_) | ((with_reducible refine splitM.mk (fun hsm => ?_) (fun hsm => ?_)) <;> (try exact zx)) | ((with_reducible refine splitB.mk (fun h => ?_) (fun h => ?_)) <;> (try simp only [zs, ne_eq] at h) <;> (try simp (disch := omega) only [w64] at h) <;> (try exact zx)) | (with_reducible intro hz; (try exact absurd hz (Nat.succ_ne_zero _)))))
  | true =>
    cases hR : taE (up, uq) (seg l s n) vp vb (gp, gq) (seg T t m) (i, (wp, wq), sp, sq) with
    | error k =>
      have hR2 : tkE (shB m (i, (wp, wq), sp, sq)) (up, uq) (seg l s n) vp vb (gp, gq) (seg T t m) (i, (wp, wq), sp, sq) = .error k := by rw [hs]; exact hR
      rw [acc_0 (r := ((i, (wp, wq), sp, sq), (fp, fq), (kp, kq), (lp, lq), (ap, aq), zp, zq)) hk hR2]
      have hcn : decide (eC (taE (up, uq) (seg l s n) vp vb (gp, gq) (seg T t m) (i, (wp, wq), sp, sq)) = 0) = false := by rw [hR]; exact decide_eq_false (enz_take _ hR2)
      refine funW tabOk (E := [(129, (s_l07ShotR (i, (wp, wq), sp, sq))), (130, (s_l07TakeR (i, (wp, wq), sp, sq)))]) ⟨(ok_l07ShotR (i, (wp, wq), sp, sq)), (ok_l07TakeR (i, (wp, wq), sp, sq)), trivial⟩ [] (k := 4) (fn := Tryz.f72) rfl rfl rfl rfl rfl rfl ?_
      (repeat' ((try (conv => whnf)); first | (with_reducible first | refine And.intro ?_ ?_ | refine WX.of ?_) | exact zc | ((with_reducible refine VC.mk ?_); exact zw) | ((with_reducible refine splitT_of ?_ ?_); (focus (simp only [hs, hcn, Bool.not_true, Bool.not_false, decide_true, decide_false]; done))) | ((with_reducible refine splitF_of ?_ ?_); (focus (simp only [hs, hcn, Bool.not_true, Bool.not_false, decide_true, decide_false]; done))) | ((with_reducible refine VC.mk ?_); exact ⟨⟨_, hLj⟩, h1.2.2⟩) | ((with_reducible refine VC.mk ?_); exact ⟨⟨_, hLj⟩, h1, hb, hs⟩) | with_reducible refine atL_p hLj ?_ | (with_reducible first | refine splitT ?_ | refine splitF ?_) | ((with_reducible refine splitM.mk (fun hsm => ?_) (fun hsm => ?_)) <;> (try exact zx)) | ((with_reducible refine splitB.mk (fun h => ?_) (fun h => ?_)) <;> (try simp only [zs, ne_eq] at h) <;> (try simp (disch := omega) only [w64] at h) <;> (try exact zx)) | (with_reducible intro hz; (try exact absurd hz (Nat.succ_ne_zero _)))))
    | ok own =>
      have hR2 : tkE (shB m (i, (wp, wq), sp, sq)) (up, uq) (seg l s n) vp vb (gp, gq) (seg T t m) (i, (wp, wq), sp, sq) = .ok own := by rw [hs]; exact hR
      rw [acc_1 (r := ((i, (wp, wq), sp, sq), (fp, fq), (kp, kq), (lp, lq), (ap, aq), zp, zq)) hk hR2]
      have hcn : decide (eC (taE (up, uq) (seg l s n) vp vb (gp, gq) (seg T t m) (i, (wp, wq), sp, sq)) = 0) = true := by rw [hR]; rfl
      obtain ⟨⟨i', ⟨wp', wq'⟩, sp', sq'⟩, ⟨fp', fq'⟩, ⟨kp', kq'⟩, ⟨lp', lq'⟩, ⟨ap', aq'⟩, zp', zq'⟩ := own
      refine funW tabOk (E := [(129, (s_l07ShotR (i, (wp, wq), sp, sq))), (130, (s_l07TakeR (i, (wp, wq), sp, sq)))]) ⟨(ok_l07ShotR (i, (wp, wq), sp, sq)), (ok_l07TakeR (i, (wp, wq), sp, sq)), trivial⟩ [] (k := 4) (fn := Tryz.f72) rfl rfl rfl rfl rfl rfl ?_
      (repeat' ((try (conv => whnf)); first | (with_reducible first | refine And.intro ?_ ?_ | refine WX.of ?_) | exact zc | ((with_reducible refine VC.mk ?_); exact zw) | ((with_reducible refine splitT_of ?_ ?_); (focus (simp only [hs, hcn, Bool.not_true, Bool.not_false, decide_true, decide_false]; done))) | ((with_reducible refine splitF_of ?_ ?_); (focus (simp only [hs, hcn, Bool.not_true, Bool.not_false, decide_true, decide_false]; done))) | ((with_reducible refine VC.mk ?_); exact ⟨⟨_, hLj⟩, h1.2.2⟩) | ((with_reducible refine VC.mk ?_); exact ⟨⟨_, hLj⟩, h1, hb, hs⟩) | with_reducible refine atL_p hLj ?_ | (with_reducible first | refine splitT ?_ | refine splitF ?_) | ((with_reducible refine splitM.mk (fun hsm => ?_) (fun hsm => ?_)) <;> (try exact zx)) | ((with_reducible refine splitB.mk (fun h => ?_) (fun h => ?_)) <;> (try simp only [zs, ne_eq] at h) <;> (try simp (disch := omega) only [w64] at h) <;> (try exact zx)) | (with_reducible intro hz; (try exact absurd hz (Nat.succ_ne_zero _)))))
      all_goals (refine ⟨?_⟩; rw [hR]; dsimp only [tkV, eV]; simp only [Prod.mk.injEq, Bool.decide_and, Bool.and_assoc, Bool.true_and, if_true]; (try rfl))
end Go.Proofs.YtonnkpclllmkoaaGreat.Eng
set_option linter.unusedVariables false
set_option linter.unusedSimpArgs false
namespace Go.Proofs.YtonnkpclllmkoaaGreat.Eng
open Go Go.RowKit
set_option maxRecDepth 100000
theorem st_v {g w s : FrT} (hg : 0 < g.2) (hw : 0 < w.2) (h : stO g w = some s) : rv s = 1 + rv g * rv w ∧ 0 < s.2 := by
  unfold stO at h
  cases h1 : muO g w with
  | none => rw [h1] at h; simp at h
  | some a =>
    rw [h1] at h
    simp only [Option.bind_some] at h
    have e1 := rv_mu hg hw h1
    have e2 := rv_ad (a := (1, 1)) (by decide) e1.2 h
    refine ⟨?_, e2.2⟩
    rw [e2.1, e1.1, rv_num]; rfl
theorem bk_v {g1 g2 w a v : FrT} (hg1 : 0 < g1.2) (hg2 : 0 < g2.2) (hw : 0 < w.2) (ha : 0 < a.2) (hp : 0 < 1 + rv g2 * rv w) (h : bkO g1 g2 w a = some v) : rv v = rv a * (1 + rv g1 * rv w) / (1 + rv g2 * rv w) ∧ 0 < v.2 := by
  unfold bkO at h
  cases h1 : stO g1 w with
  | none => rw [h1] at h; simp at h
  | some c =>
    rw [h1] at h
    simp only [Option.bind_some] at h
    cases h2 : stO g2 w with
    | none => rw [h2] at h; simp at h
    | some t =>
      rw [h2] at h
      simp only [Option.bind_some] at h
      cases h3 : muO a c with
      | none => rw [h3] at h; simp at h
      | some d =>
        rw [h3] at h
        simp only [Option.bind_some] at h
        have e1 := st_v hg1 hw h1
        have e2 := st_v hg2 hw h2
        have e3 := rv_mu ha e1.2 h3
        have hp2 : 0 < t.1 := (rv_pos e2.2).1 (by rw [e2.1]; exact hp)
        have e4 := rv_dv e3.2 e2.2 hp2 h
        refine ⟨?_, e4.2⟩
        rw [e4.1, e3.1, e1.1, e2.1]
theorem db_v {u w e : FrT} {vp : Int} (hu : 0 < u.2) (hw : 0 < w.2) (hv : 0 < vp) (h : dbO u vp w = some e) : rv e = rv u / (2 * vp) + 2 * rv w ∧ 0 < e.2 := by
  unfold dbO at h
  cases h1 : dvO u (2 * vp, 1) with
  | none => rw [h1] at h; simp at h
  | some a =>
    rw [h1] at h
    simp only [Option.bind_some] at h
    cases h2 : muO (2, 1) w with
    | none => rw [h2] at h; simp at h
    | some b =>
      rw [h2] at h
      simp only [Option.bind_some] at h
      have e1 := rv_dv (b := (2 * vp, 1)) hu Int.one_pos (by dsimp only; omega) h1
      have e2 := rv_mu (a := (2, 1)) (by decide) hw h2
      have e3 := rv_ad e1.2 e2.2 h
      refine ⟨?_, e3.2⟩
      rw [e3.1, e1.1, e2.1, rv_num, rv_num]
      push_cast; rfl
theorem wrN_nn {E : List FrT} : ∀ (i : Nat), 0 ≤ (wrN E i).1
  | 0 => Int.le_refl 0
  | i + 1 => by
    rw [wrN]
    unfold moF
    have := wrN_nn (E := E) i
    split
    · exact this
    · dsimp only; omega
theorem gw_v {g : FrT} (h : gwB g.1 g.2 = true) : 0 < g.2 ∧ 0 ≤ rv g ∧ 1000 * rv g ≤ 1 := by
  unfold gwB at h
  simp only [Bool.and_eq_true, decide_eq_true_eq] at h
  have hq := fOk_q h.1.1
  refine ⟨hq, (rv_nn hq).2 h.1.2, ?_⟩
  have h2 := (rv_le (a := (1000 * g.1, g.2)) (b := (1, 1)) hq (by decide)).2 (by dsimp only; omega)
  rw [show rv (1, 1) = 1 from rv_num 1] at h2
  have : rv (1000 * g.1, g.2) = 1000 * rv g := by unfold rv; dsimp only; push_cast; grind
  rw [this] at h2; exact h2
theorem wm_v {w : FrT} (hf : fOk w.1 w.2 = true) (h : (w.1.natAbs : Int) ≤ 100 * w.2) : 0 < w.2 ∧ -100 ≤ rv w ∧ rv w ≤ 100 := by
  have hq := fOk_q hf
  have h1 := (rv_le (a := w) (b := (100, 1)) hq (by decide)).2 (by dsimp only; omega)
  have h2 := (rv_le (a := (-100, 1)) (b := w) (by decide) hq).2 (by dsimp only; omega)
  rw [rv_num] at h1 h2
  exact ⟨hq, h2, h1⟩
/-- A stretch is more than 0. -/
theorem st_gt {g w : FrT} (hg : gwB g.1 g.2 = true) (hf : fOk w.1 w.2 = true) (h : (w.1.natAbs : Int) ≤ 100 * w.2) : 0 < 1 + rv g * rv w := by
  have h1 := gw_v hg
  have h2 := wm_v hf h
  have h3 := Rat.mul_le_mul_of_nonneg_left h2.2.1 h1.2.1
  grind
/-- What an open span tells. -/
theorem op_v {up uq vp gp gq : Int} {E : List FrT} {T : List ThT} {c : ShT} {f k a b : FrT} (hb : bnB up uq vp gp gq E T = true) (hs : shB T.length c = true) (hf : fOk f.1 f.2 = true) (hk : fOk k.1 k.2 = true) (h : opT (up, uq) E vp (gp, gq) T c f k = some (a, b)) :
    (rv a = (rv k - rv f - 2 * (rv (up, uq) / (2 * vp) + 2 * rv (wrN E E.length))) * (1 + rv (gp, gq) * rv c.2.1) / (1 + rv (thAt T c).2.2 * rv c.2.1) ∧ 0 < a.2) ∧
    (rv b = (rv k - rv f + 2 * (rv (up, uq) / (2 * vp) + 2 * rv (wrN E E.length))) * (1 + rv (gp, gq) * rv c.2.1) / (1 + rv (thAt T c).2.2 * rv c.2.1) ∧ 0 < b.2) := by
  have hgg := bn_g hb
  have hsh := sh_e hs
  obtain ⟨x, ha⟩ := get_some (l := T) (i := c.1.toNat) (by omega)
  have hat := bn_at hb ha
  have e : thAt T c = x := by unfold thAt; rw [ha]; rfl
  have hel := sc_el hgg.2.2.2.2
  have hwr := wrN_sm hel (i := E.length) (Nat.le_refl _)
  have hwq : 0 < (wrN E E.length).2 := by unfold smF at hwr; omega
  rw [e]
  unfold opT opO at h
  rw [e] at h
  have hp := st_gt hat.2.2 hsh.2.1 hsh.2.2.1
  cases h1 : sbO k f with
  | none => rw [h1] at h; simp at h
  | some d =>
    rw [h1] at h
    simp only [Option.bind_some] at h
    cases h2 : dbO (up, uq) vp (wrN E E.length) with
    | none => rw [h2] at h; simp at h
    | some dd =>
      rw [h2] at h
      simp only [Option.bind_some] at h
      cases h3 : muO (2, 1) dd with
      | none => rw [h3] at h; simp at h
      | some by' =>
        rw [h3] at h
        simp only [Option.bind_some] at h
        cases h4 : arO d by' with
        | none => rw [h4] at h; simp at h
        | some lh =>
          rw [h4] at h
          simp only [Option.bind_some] at h
          unfold arO at h4
          cases h5 : sbO d by' with
          | none => rw [h5] at h4; simp at h4
          | some lo =>
            rw [h5] at h4
            simp only [Option.bind_some] at h4
            cases h6 : adO d by' with
            | none => rw [h6] at h4; simp at h4
            | some hi =>
              rw [h6] at h4
              simp only [Option.bind_some] at h4
              obtain rfl := Option.some.inj h4
              cases h7 : bkO (gp, gq) x.2.2 c.2.1 lo with
              | none => rw [h7] at h; simp at h
              | some a' =>
                rw [h7] at h
                simp only [Option.bind_some] at h
                cases h8 : bkO (gp, gq) x.2.2 c.2.1 hi with
                | none => rw [h8] at h; simp at h
                | some b' =>
                  rw [h8] at h
                  simp only [Option.bind_some] at h
                  obtain ⟨rfl, rfl⟩ := Prod.mk.inj (Option.some.inj h)
                  have e1 := rv_sb (fOk_q hk) (fOk_q hf) h1
                  have e2 := db_v (u := (up, uq)) (fOk_q hgg.2.2.1) hwq (by omega) h2
                  have e3 := rv_mu (a := (2, 1)) (by decide) e2.2 h3
                  have e5 := rv_sb e1.2 e3.2 h5
                  have e6 := rv_ad e1.2 e3.2 h6
                  have e7 := bk_v (g1 := (gp, gq)) (fOk_q hgg.1) (fOk_q hat.2.1) (fOk_q hsh.2.1) e5.2 hp h7
                  have e8 := bk_v (g1 := (gp, gq)) (fOk_q hgg.1) (fOk_q hat.2.1) (fOk_q hsh.2.1) e6.2 hp h8
                  rw [rv_num] at e3
                  refine ⟨⟨?_, e7.2⟩, ?_, e8.2⟩
                  · rw [e7.1, e5.1, e1.1, e3.1, e2.1]; rfl
                  · rw [e8.1, e6.1, e1.1, e3.1, e2.1]; rfl
theorem rat_div_le {a b c : Rat} (h : a ≤ b) (hc : 0 < c) : a / c ≤ b / c := by
  have h1 : 0 < c⁻¹ := Rat.inv_pos.2 hc
  have := Rat.mul_le_mul_of_nonneg_right h (Rat.le_of_lt h1)
  rwa [← Rat.div_def, ← Rat.div_def] at this
theorem bk_f {g1 g2 w a v : FrT} (h : bkO g1 g2 w a = some v) : fOk v.1 v.2 = true := okO_bk _ _ _ _ v h
theorem op_f {u : FrT} {E : List FrT} {vp : Int} {g : FrT} {T : List ThT} {c : ShT} {f k a b : FrT} (h : opT u E vp g T c f k = some (a, b)) : fOk a.1 a.2 = true ∧ fOk b.1 b.2 = true := by
  unfold opT opO at h
  cases h1 : sbO k f with
  | none => rw [h1] at h; simp at h
  | some d =>
    rw [h1] at h
    simp only [Option.bind_some] at h
    cases h2 : dbO u vp (wrN E E.length) with
    | none => rw [h2] at h; simp at h
    | some dd =>
      rw [h2] at h
      simp only [Option.bind_some] at h
      cases h3 : muO (2, 1) dd with
      | none => rw [h3] at h; simp at h
      | some by' =>
        rw [h3] at h
        simp only [Option.bind_some] at h
        cases h4 : arO d by' with
        | none => rw [h4] at h; simp at h
        | some lh =>
          rw [h4] at h
          simp only [Option.bind_some] at h
          cases h7 : bkO g (thAt T c).2.2 c.2.1 lh.1 with
          | none => rw [h7] at h; simp at h
          | some a' =>
            rw [h7] at h
            simp only [Option.bind_some] at h
            cases h8 : bkO g (thAt T c).2.2 c.2.1 lh.2 with
            | none => rw [h8] at h; simp at h
            | some b' =>
              rw [h8] at h
              simp only [Option.bind_some] at h
              obtain ⟨rfl, rfl⟩ := Prod.mk.inj (Option.some.inj h)
              exact ⟨bk_f h7, bk_f h8⟩
theorem op_sp {up uq vp gp gq : Int} {E : List FrT} {T : List ThT} {c : ShT} {f k a b : FrT} (hb : bnB up uq vp gp gq E T = true) (hs : shB T.length c = true) (hf : fOk f.1 f.2 = true) (hk : fOk k.1 k.2 = true) (h : opT (up, uq) E vp (gp, gq) T c f k = some (a, b)) : spB (a, b) = true := by
  have hv := op_v hb hs hf hk h
  have hfa := op_f h
  have hgg := bn_g hb
  have hsh := sh_e hs
  obtain ⟨x, ha⟩ := get_some (l := T) (i := c.1.toNat) (by omega)
  have hat := bn_at hb ha
  have e : thAt T c = x := by unfold thAt; rw [ha]; rfl
  have hC := st_gt (g := (gp, gq)) hgg.2.1 hsh.2.1 hsh.2.2.1
  have hD := st_gt hat.2.2 hsh.2.1 hsh.2.2.1
  rw [← e] at hD
  have hel := sc_el hgg.2.2.2.2
  have hwr := wrN_sm hel (i := E.length) (Nat.le_refl _)
  have hw0 : 0 ≤ rv (wrN E E.length) := (rv_nn (by unfold smF at hwr; omega)).2 (wrN_nn _)
  have hsz := sc_sz hgg.2.2.2.2
  have hu0 : 0 < rv (up, uq) := (rv_pos (fOk_q hgg.2.2.1)).2 hsz.2.1.1
  have hvp : (0 : Rat) < 2 * vp := by have : (0 : Rat) < vp := pos_q (by omega); grind
  have hud : 0 ≤ rv (up, uq) / (2 * vp) := by
    have := rat_div_le (Rat.le_of_lt hu0) hvp
    rwa [show (0 : Rat) / (2 * vp) = 0 by grind] at this
  have hle : rv a ≤ rv b := by
    rw [hv.1.1, hv.2.1]
    refine rat_div_le (Rat.mul_le_mul_of_nonneg_right ?_ (Rat.le_of_lt hC)) hD
    grind
  unfold spB
  rw [spOk_iff]
  exact ⟨hfa.1, hfa.2, (rv_le hv.1.2 hv.2.2).1 hle⟩
/-- What an accepted report is. -/
theorem acc_sp {up uq vp gp gq : Int} {vb : Bool} {E : List FrT} {T : List ThT} {r : RpT} (hb : bnB up uq vp gp gq E T = true) (h : accB (up, uq) E vp vb (gp, gq) T r = true) : spB r.2.2.2.2 = true ∧ fOk r.2.2.2.1.1 r.2.2.2.1.2 = true ∧ shB T.length r.1 = true ∧ taE (up, uq) E vp vb (gp, gq) T r.1 = .ok r := by
  unfold accB at h
  cases hs : shB T.length r.1 with
  | false => rw [hs] at h; simp [tkE] at h
  | true =>
    rw [hs] at h
    unfold tkE at h
    rw [if_pos rfl] at h
    cases ht : taE (up, uq) E vp vb (gp, gq) T r.1 with
    | error k => rw [ht] at h; simp at h
    | ok own =>
      rw [ht] at h
      simp only [decide_eq_true_eq] at h
      subst h
      rcases ta_c (up, uq) E vp vb (gp, gq) T own.1 with ⟨k, _, _, hE⟩ | ⟨d1, d2, hr, hcc⟩
      · rw [hE] at ht; cases ht
      · have hf := ends_f hr
        rcases hcc with ⟨_, hE⟩ | ⟨len, hl, hcc⟩
        · rw [hE] at ht; cases ht
        · rcases hcc with ⟨_, hE⟩ | ⟨a, b, ho, hE⟩
          · rw [hE] at ht; cases ht
          · rw [hE] at ht
            have e := Except.ok.inj ht
            rw [← e]
            rw [← e] at hs
            exact ⟨op_sp hb hs hf.1 hf.2 ho, okO_ln2 _ _ _ _ _ _ hl, rfl, rfl⟩
end Go.Proofs.YtonnkpclllmkoaaGreat.Eng
set_option linter.unusedVariables false
set_option linter.unusedSimpArgs false
namespace Go.Proofs.YtonnkpclllmkoaaGreat.Eng
open Go Go.RowKit
set_option maxRecDepth 100000
def s_SubSp : Spec := fun args S => match args, S with
  | [.agg [.int .i64 p, .int .i64 q, .int .i64 p', .int .i64 q'], .agg [.int .i64 r, .int .i64 s, .int .i64 r', .int .i64 s']], [] => ⟨spB ((p, q), p', q') = true ∧ spB ((r, s), r', s') = true, .tup [.agg [.int .i64 (zsS (miO ((p, q), p', q') ((r, s), r', s'))).1.1, .int .i64 (zsS (miO ((p, q), p', q') ((r, s), r', s'))).1.2, .int .i64 (zsS (miO ((p, q), p', q') ((r, s), r', s'))).2.1, .int .i64 (zsS (miO ((p, q), p', q') ((r, s), r', s'))).2.2], .int .i64 (oCS (miO ((p, q), p', q') ((r, s), r', s')))], []⟩
  | _, _ => noSpec
theorem ok_SubSpans : SpecOk Tryz.prog 84 s_SubSp := by
  intro args S h; unfold s_SubSp at h ⊢; (split at h <;> first | exact False.elim h | skip)
  dsimp only at h ⊢
  rename_i p q p' q' r s r' s'
  obtain ⟨h1, h2⟩ := h
  have g1 := smS_ok h1
  have g2 := smS_ok h2
  have hal : List.all (seg [((p, q), p', q'), ((r, s), r', s')] 0 2) spB = true := by simp [seg, h1, h2]
  have ht := mi_tol ((p, q), p', q') ((r, s), r', s')
  refine funW tabOk (E := [(43, s_areSp), (47, s_subO), (41, s_spanC)]) ⟨ok_areSpans, ok_subO, ok_spanC, trivial⟩ [(4, [(9, 0), (11, 0)])] (k := 0) (fn := Tryz.f84) rfl rfl rfl rfl rfl rfl ?_
  (repeat' ((try dsimp only); (try (conv => whnf)); first | (with_reducible first | refine And.intro ?_ ?_ | refine WX.of ?_) | exact zc | ((with_reducible refine VC.mk ?_); exact zw) | ((with_reducible refine splitT_of ?_ ?_); (focus (simp only [hal, Bool.not_true, Bool.not_false, decide_true, decide_false]; done))) | ((with_reducible refine splitF_of ?_ ?_); (focus (simp only [hal, Bool.not_true, Bool.not_false, decide_true, decide_false]; done))) | ((with_reducible refine VC.mk ?_); exact ⟨Nat.le_refl 2, by omega⟩) | ((with_reducible refine VC.mk ?_); exact ⟨rfl, g1.1, g2.2⟩) | ((with_reducible refine VC.mk ?_); exact ⟨rfl, g1.2, g2.1⟩) | (with_reducible first | refine splitT ?_ | refine splitF ?_) | ((with_reducible refine splitM.mk (fun hsm => ?_) (fun hsm => ?_)) <;> (try exact zx)) | ((with_reducible refine splitB.mk (fun h => ?_) (fun h => ?_)) <;> (try simp only [zs, ne_eq] at h) <;> (try simp (disch := omega) only [w64] at h) <;> (try exact zx)) | (with_reducible intro hz; (try exact absurd hz (Nat.succ_ne_zero _)))))
  all_goals (refine ⟨?_⟩; rcases ht with ⟨hb, ho⟩ | ⟨hb, ho⟩ <;> (rw [ho]; simp only [Bool.false_or, hb, if_true, if_false, Bool.false_eq_true]; rfl))
theorem ok_ValidChainS : SpecOk Tryz.prog 71 s_l05Ok := by
  intro args S h; unfold s_l05Ok at h ⊢; (split at h <;> first | exact False.elim h | skip)
  dsimp only at h ⊢
  refine funW tabOk (E := [(37, s_l05Ok)]) ⟨ok_l05Ok, trivial⟩ [] (k := 1) (fn := Tryz.f71) rfl rfl rfl rfl rfl rfl ?_
  (repeat' ((try (conv => whnf)); first | (with_reducible first | refine And.intro ?_ ?_ | refine WX.of ?_) | exact zc | ((with_reducible refine VC.mk ?_); exact zw) | ((with_reducible refine VC.mk ?_); exact h) | (with_reducible first | refine splitT ?_ | refine splitF ?_) | ((with_reducible refine splitM.mk (fun hsm => ?_) (fun hsm => ?_)) <;> (try exact zx)) | ((with_reducible refine splitB.mk (fun h => ?_) (fun h => ?_)) <;> (try simp only [zs, ne_eq] at h) <;> (try simp (disch := omega) only [w64] at h) <;> (try exact zx)) | (with_reducible intro hz; (try exact absurd hz (Nat.succ_ne_zero _)))))
/-- What is told against a standard. -/
def agC (bn ch acc : Bool) (c : Int) (o : Option SpT) : Int := if (bn && ch) = true then (if acc = true then (if c = 0 then oCS o else c) else 8) else 1
def agV (bn ch acc : Bool) (c : Int) (o : Option SpT) : SpT := if agC bn ch acc c o = 0 then zsS o else ((0, 0), 0, 0)
theorem ag_1 {bn ch acc : Bool} {c : Int} {o : Option SpT} (h : (bn && ch) = false) : agC bn ch acc c o = 1 ∧ agV bn ch acc c o = ((0, 0), 0, 0) := by
  have e : agC bn ch acc c o = 1 := by unfold agC; rw [h]; rfl
  exact ⟨e, by unfold agV; rw [e]; rfl⟩
theorem ag_2 {ch acc bn : Bool} {c : Int} {o : Option SpT} (h : (bn && ch) = true) (ha : acc = false) : agC bn ch acc c o = 8 ∧ agV bn ch acc c o = ((0, 0), 0, 0) := by
  have e : agC bn ch acc c o = 8 := by unfold agC; rw [h, ha]; rfl
  exact ⟨e, by unfold agV; rw [e]; rfl⟩
theorem ag_3 {ch acc bn : Bool} {c : Int} {o : Option SpT} (h : (bn && ch) = true) (ha : acc = true) (hc : ¬ c = 0) : agC bn ch acc c o = c ∧ agV bn ch acc c o = ((0, 0), 0, 0) := by
  have e : agC bn ch acc c o = c := by unfold agC; rw [if_pos h, if_pos ha, if_neg hc]
  exact ⟨e, by unfold agV; rw [e, if_neg hc]⟩
theorem ag_4 {ch acc bn : Bool} {c : Int} {o : Option SpT} (h : (bn && ch) = true) (ha : acc = true) (hc : c = 0) : agC bn ch acc c o = oCS o ∧ agV bn ch acc c o = zsS o := by
  have e : agC bn ch acc c o = oCS o := by unfold agC; rw [if_pos h, if_pos ha, if_pos hc]
  refine ⟨e, ?_⟩
  unfold agV; rw [e]
  cases o <;> simp [oCS, zsS]
def s_agst2 : Spec := fun args S => match args, S with
  | [.agg [.int .i64 up, .int .i64 uq, .sl 0 s n x, .int .i64 vp, .bool vb, .int .i64 gp, .int .i64 gq, .sl 1 t m y], .agg [.int .i64 i, .int .i64 wp, .int .i64 wq, .int .i64 sp, .int .i64 sq, .int .i64 fp, .int .i64 fq, .int .i64 kp, .int .i64 kq, .int .i64 lp, .int .i64 lq, .int .i64 ap, .int .i64 aq, .int .i64 zp, .int .i64 zq], .sl 2 cs cn cx, .int .i64 ci, .int .i64 day], [.arr (.prod (.int .i64) (.int .i64)) l 2 wr, .arr (.prod .str (.prod (.prod (.int .i64) (.int .i64)) (.prod (.int .i64) (.int .i64)))) T 5 wT, .arr (.prod .str (.prod (.int .i64) (.prod (.prod (.prod (.int .i64) (.int .i64)) (.prod (.int .i64) (.int .i64))) (.prod (.prod (.int .i64) (.int .i64)) (.prod (.int .i64) (.int .i64)))))) C 10 wC] => ⟨((s + n ≤ l.length ∧ n ≤ 1048576) ∧ (t + m ≤ T.length ∧ m ≤ 1048576) ∧ ∀ (j : Nat) (a : ThT), T[j]? = some a → a.1.length < 9223372036854775808) ∧ chP cs cn C, .tup [.agg [.int .i64 (agV (bnB up uq vp gp gq (seg l s n) (seg T t m)) (chB (seg C cs cn)) (accB (up, uq) (seg l s n) vp vb (gp, gq) (seg T t m) ((i, (wp, wq), sp, sq), (fp, fq), (kp, kq), (lp, lq), (ap, aq), zp, zq)) (soC (seg C cs cn) ci day) (miO ((ap, aq), zp, zq) (soV (seg C cs cn) ci day))).1.1, .int .i64 (agV (bnB up uq vp gp gq (seg l s n) (seg T t m)) (chB (seg C cs cn)) (accB (up, uq) (seg l s n) vp vb (gp, gq) (seg T t m) ((i, (wp, wq), sp, sq), (fp, fq), (kp, kq), (lp, lq), (ap, aq), zp, zq)) (soC (seg C cs cn) ci day) (miO ((ap, aq), zp, zq) (soV (seg C cs cn) ci day))).1.2, .int .i64 (agV (bnB up uq vp gp gq (seg l s n) (seg T t m)) (chB (seg C cs cn)) (accB (up, uq) (seg l s n) vp vb (gp, gq) (seg T t m) ((i, (wp, wq), sp, sq), (fp, fq), (kp, kq), (lp, lq), (ap, aq), zp, zq)) (soC (seg C cs cn) ci day) (miO ((ap, aq), zp, zq) (soV (seg C cs cn) ci day))).2.1, .int .i64 (agV (bnB up uq vp gp gq (seg l s n) (seg T t m)) (chB (seg C cs cn)) (accB (up, uq) (seg l s n) vp vb (gp, gq) (seg T t m) ((i, (wp, wq), sp, sq), (fp, fq), (kp, kq), (lp, lq), (ap, aq), zp, zq)) (soC (seg C cs cn) ci day) (miO ((ap, aq), zp, zq) (soV (seg C cs cn) ci day))).2.2], .int .i64 (agC (bnB up uq vp gp gq (seg l s n) (seg T t m)) (chB (seg C cs cn)) (accB (up, uq) (seg l s n) vp vb (gp, gq) (seg T t m) ((i, (wp, wq), sp, sq), (fp, fq), (kp, kq), (lp, lq), (ap, aq), zp, zq)) (soC (seg C cs cn) ci day) (miO ((ap, aq), zp, zq) (soV (seg C cs cn) ci day)))], [.arr (.prod (.int .i64) (.int .i64)) l 2 wr, .arr (.prod .str (.prod (.prod (.int .i64) (.int .i64)) (.prod (.int .i64) (.int .i64)))) T 5 wT, .arr (.prod .str (.prod (.int .i64) (.prod (.prod (.prod (.int .i64) (.int .i64)) (.prod (.int .i64) (.int .i64))) (.prod (.prod (.int .i64) (.int .i64)) (.prod (.int .i64) (.int .i64)))))) C 10 wC]⟩
  | _, _ => noSpec
attribute [local irreducible] bnB shB taE accB in
set_option maxHeartbeats 3200000 in
theorem ok_AgainstI : SpecOk Tryz.prog 29 s_agst2 := by
  intro args S h; unfold s_agst2 at h ⊢; (split at h <;> first | exact False.elim h | skip)
  dsimp only at h ⊢
  rename_i up uq s n x vp vb gp gq t m y i wp wq sp sq fp fq kp kq lp lq ap aq zp zq cs cn cx ci day l wr T wT C wC
  obtain ⟨hq, hch⟩ := h
  cases hb : (bnB up uq vp gp gq (seg l s n) (seg T t m)) with
  | false =>
    rw [(ag_1 (by simp)).1, (ag_1 (by simp)).2]
    refine funW tabOk (E := [(82, s_vBench)]) ⟨ok_ValidBenchI, trivial⟩ [] (k := 3) (fn := Tryz.f29) rfl rfl rfl rfl rfl rfl ?_
    (repeat' ((try (conv => whnf)); first | (with_reducible first | refine And.intro ?_ ?_ | refine WX.of ?_) | exact zc | ((with_reducible refine VC.mk ?_); exact zw) | ((with_reducible refine splitT_of ?_ ?_); (focus (simp only [hb, Bool.not_true, Bool.not_false, decide_true, decide_false]; done))) | ((with_reducible refine splitF_of ?_ ?_); (focus (simp only [hb, Bool.not_true, Bool.not_false, decide_true, decide_false]; done))) | ((with_reducible refine VC.mk ?_); exact hq) | (with_reducible first | refine splitT ?_ | refine splitF ?_) | ((with_reducible refine splitM.mk (fun hsm => ?_) (fun hsm => ?_)) <;> (try exact zx)) | ((with_reducible refine splitB.mk (fun h => ?_) (fun h => ?_)) <;> (try simp only [zs, ne_eq] at h) <;> (try simp (disch := omega) only [w64] at h) <;> (try exact zx)) | (with_reducible intro hz; (try exact absurd hz (Nat.succ_ne_zero _)))))
  | true =>
  cases hc : chB (seg C cs cn) with
  | false =>
    rw [(ag_1 (by simp)).1, (ag_1 (by simp)).2]
    refine funW tabOk (E := [(82, s_vBench), (36, s_l05Ok)]) ⟨ok_ValidBenchI, ok_ValidChainI, trivial⟩ [] (k := 3) (fn := Tryz.f29) rfl rfl rfl rfl rfl rfl ?_
    (repeat' ((try (conv => whnf)); first | (with_reducible first | refine And.intro ?_ ?_ | refine WX.of ?_) | exact zc | ((with_reducible refine VC.mk ?_); exact zw) | ((with_reducible refine splitT_of ?_ ?_); (focus (simp only [hb, hc, Bool.not_true, Bool.not_false, decide_true, decide_false]; done))) | ((with_reducible refine splitF_of ?_ ?_); (focus (simp only [hb, hc, Bool.not_true, Bool.not_false, decide_true, decide_false]; done))) | ((with_reducible refine VC.mk ?_); exact hq) | ((with_reducible refine VC.mk ?_); exact hch) | (with_reducible first | refine splitT ?_ | refine splitF ?_) | ((with_reducible refine splitM.mk (fun hsm => ?_) (fun hsm => ?_)) <;> (try exact zx)) | ((with_reducible refine splitB.mk (fun h => ?_) (fun h => ?_)) <;> (try simp only [zs, ne_eq] at h) <;> (try simp (disch := omega) only [w64] at h) <;> (try exact zx)) | (with_reducible intro hz; (try exact absurd hz (Nat.succ_ne_zero _)))))
  | true =>
  cases ha : (accB (up, uq) (seg l s n) vp vb (gp, gq) (seg T t m) ((i, (wp, wq), sp, sq), (fp, fq), (kp, kq), (lp, lq), (ap, aq), zp, zq)) with
  | false =>
    rw [(ag_2 rfl rfl).1, (ag_2 rfl rfl).2]
    refine funW tabOk (E := [(82, s_vBench), (36, s_l05Ok), (83, s_chk)]) ⟨ok_ValidBenchI, ok_ValidChainI, ok_CheckReportI, trivial⟩ [] (k := 3) (fn := Tryz.f29) rfl rfl rfl rfl rfl rfl ?_
    (repeat' ((try (conv => whnf)); first | (with_reducible first | refine And.intro ?_ ?_ | refine WX.of ?_) | exact zc | ((with_reducible refine VC.mk ?_); exact zw) | ((with_reducible refine splitT_of ?_ ?_); (focus (simp only [hb, hc, ha, Bool.and_false, Bool.not_true, Bool.not_false, decide_true, decide_false]; done))) | ((with_reducible refine splitF_of ?_ ?_); (focus (simp only [hb, hc, ha, Bool.and_false, Bool.not_true, Bool.not_false, decide_true, decide_false]; done))) | ((with_reducible refine VC.mk ?_); exact hq) | ((with_reducible refine VC.mk ?_); exact hch) | (with_reducible first | refine splitT ?_ | refine splitF ?_) | ((with_reducible refine splitM.mk (fun hsm => ?_) (fun hsm => ?_)) <;> (try exact zx)) | ((with_reducible refine splitB.mk (fun h => ?_) (fun h => ?_)) <;> (try simp only [zs, ne_eq] at h) <;> (try simp (disch := omega) only [w64] at h) <;> (try exact zx)) | (with_reducible intro hz; (try exact absurd hz (Nat.succ_ne_zero _)))))
  | true =>
  have hsp := (acc_sp hb ha).1
  by_cases hso : soC (seg C cs cn) ci day = 0
  rotate_left 1
  · rw [(ag_3 rfl rfl hso).1, (ag_3 rfl rfl hso).2]
    refine funW tabOk (E := [(82, s_vBench), (36, s_l05Ok), (83, s_chk), (11, s_SpanOn)]) ⟨ok_ValidBenchI, ok_ValidChainI, ok_CheckReportI, ok_SpanOnI, trivial⟩ [] (k := 3) (fn := Tryz.f29) rfl rfl rfl rfl rfl rfl ?_
    (repeat' ((try (conv => whnf)); first | (with_reducible first | refine And.intro ?_ ?_ | refine WX.of ?_) | exact zc | ((with_reducible refine VC.mk ?_); exact zw) | ((with_reducible refine splitT_of ?_ ?_); (focus (simp only [hb, hc, ha, Bool.and_true, hso, Bool.not_true, Bool.not_false, decide_true, decide_false]; done))) | ((with_reducible refine splitF_of ?_ ?_); (focus (simp only [hb, hc, ha, Bool.and_true, hso, Bool.not_true, Bool.not_false, decide_true, decide_false]; done))) | ((with_reducible refine VC.mk ?_); exact hq) | ((with_reducible refine VC.mk ?_); exact hch) | (with_reducible first | refine splitT ?_ | refine splitF ?_) | ((with_reducible refine splitM.mk (fun hsm => ?_) (fun hsm => ?_)) <;> (try exact zx)) | ((with_reducible refine splitB.mk (fun h => ?_) (fun h => ?_)) <;> (try simp only [zs, ne_eq] at h) <;> (try simp (disch := omega) only [w64] at h) <;> (try exact zx)) | (with_reducible intro hz; (try exact absurd hz (Nat.succ_ne_zero _)))))
  · rw [(ag_4 rfl rfl hso).1, (ag_4 rfl rfl hso).2]
    have hs2 := (so_sp hso).1
    refine funW tabOk (E := [(82, s_vBench), (36, s_l05Ok), (83, s_chk), (11, s_SpanOn), (84, s_SubSp)]) ⟨ok_ValidBenchI, ok_ValidChainI, ok_CheckReportI, ok_SpanOnI, ok_SubSpans, trivial⟩ [] (k := 3) (fn := Tryz.f29) rfl rfl rfl rfl rfl rfl ?_
    (repeat' ((try (conv => whnf)); first | (with_reducible first | refine And.intro ?_ ?_ | refine WX.of ?_) | exact zc | ((with_reducible refine VC.mk ?_); exact zw) | ((with_reducible refine splitT_of ?_ ?_); (focus (simp only [hb, hc, ha, Bool.and_true, hso, Bool.not_true, Bool.not_false, decide_true, decide_false]; done))) | ((with_reducible refine splitF_of ?_ ?_); (focus (simp only [hb, hc, ha, Bool.and_true, hso, Bool.not_true, Bool.not_false, decide_true, decide_false]; done))) | ((with_reducible refine VC.mk ?_); exact hq) | ((with_reducible refine VC.mk ?_); exact hch) | ((with_reducible refine VC.mk ?_); exact ⟨hsp, hs2⟩) | (with_reducible first | refine splitT ?_ | refine splitF ?_) | ((with_reducible refine splitM.mk (fun hsm => ?_) (fun hsm => ?_)) <;> (try exact zx)) | ((with_reducible refine splitB.mk (fun h => ?_) (fun h => ?_)) <;> (try simp only [zs, ne_eq] at h) <;> (try simp (disch := omega) only [w64] at h) <;> (try exact zx)) | (with_reducible intro hz; (try exact absurd hz (Nat.succ_ne_zero _)))))
attribute [local irreducible] bnB shB taE accB in
set_option maxHeartbeats 3200000 in
theorem ok_AgainstS : SpecOk Tryz.prog 25 s_agst2 := by
  intro args S h; unfold s_agst2 at h ⊢; (split at h <;> first | exact False.elim h | skip)
  dsimp only at h ⊢
  rename_i up uq s n x vp vb gp gq t m y i wp wq sp sq fp fq kp kq lp lq ap aq zp zq cs cn cx ci day l wr T wT C wC
  obtain ⟨hq, hch⟩ := h
  cases hb : (bnB up uq vp gp gq (seg l s n) (seg T t m)) with
  | false =>
    rw [(ag_1 (by simp)).1, (ag_1 (by simp)).2]
    refine funW tabOk (E := [(70, s_l07Ok)]) ⟨ok_l07Ok, trivial⟩ [] (k := 3) (fn := Tryz.f25) rfl rfl rfl rfl rfl rfl ?_
    (repeat' ((try (conv => whnf)); first | (with_reducible first | refine And.intro ?_ ?_ | refine WX.of ?_) | exact zc | ((with_reducible refine VC.mk ?_); exact zw) | ((with_reducible refine splitT_of ?_ ?_); (focus (simp only [hb, Bool.not_true, Bool.not_false, decide_true, decide_false]; done))) | ((with_reducible refine splitF_of ?_ ?_); (focus (simp only [hb, Bool.not_true, Bool.not_false, decide_true, decide_false]; done))) | ((with_reducible refine VC.mk ?_); exact hq) | (with_reducible first | refine splitT ?_ | refine splitF ?_) | ((with_reducible refine splitM.mk (fun hsm => ?_) (fun hsm => ?_)) <;> (try exact zx)) | ((with_reducible refine splitB.mk (fun h => ?_) (fun h => ?_)) <;> (try simp only [zs, ne_eq] at h) <;> (try simp (disch := omega) only [w64] at h) <;> (try exact zx)) | (with_reducible intro hz; (try exact absurd hz (Nat.succ_ne_zero _)))))
  | true =>
  cases hc : chB (seg C cs cn) with
  | false =>
    rw [(ag_1 (by simp)).1, (ag_1 (by simp)).2]
    refine funW tabOk (E := [(70, s_l07Ok), (71, s_l05Ok)]) ⟨ok_l07Ok, ok_ValidChainS, trivial⟩ [] (k := 3) (fn := Tryz.f25) rfl rfl rfl rfl rfl rfl ?_
    (repeat' ((try (conv => whnf)); first | (with_reducible first | refine And.intro ?_ ?_ | refine WX.of ?_) | exact zc | ((with_reducible refine VC.mk ?_); exact zw) | ((with_reducible refine splitT_of ?_ ?_); (focus (simp only [hb, hc, Bool.not_true, Bool.not_false, decide_true, decide_false]; done))) | ((with_reducible refine splitF_of ?_ ?_); (focus (simp only [hb, hc, Bool.not_true, Bool.not_false, decide_true, decide_false]; done))) | ((with_reducible refine VC.mk ?_); exact hq) | ((with_reducible refine VC.mk ?_); exact hch) | (with_reducible first | refine splitT ?_ | refine splitF ?_) | ((with_reducible refine splitM.mk (fun hsm => ?_) (fun hsm => ?_)) <;> (try exact zx)) | ((with_reducible refine splitB.mk (fun h => ?_) (fun h => ?_)) <;> (try simp only [zs, ne_eq] at h) <;> (try simp (disch := omega) only [w64] at h) <;> (try exact zx)) | (with_reducible intro hz; (try exact absurd hz (Nat.succ_ne_zero _)))))
  | true =>
  cases ha : (accB (up, uq) (seg l s n) vp vb (gp, gq) (seg T t m) ((i, (wp, wq), sp, sq), (fp, fq), (kp, kq), (lp, lq), (ap, aq), zp, zq)) with
  | false =>
    rw [(ag_2 rfl rfl).1, (ag_2 rfl rfl).2]
    refine funW tabOk (E := [(70, s_l07Ok), (71, s_l05Ok), (72, (s_acc ((i, (wp, wq), sp, sq), (fp, fq), (kp, kq), (lp, lq), (ap, aq), zp, zq)))]) ⟨ok_l07Ok, ok_ValidChainS, (ok_l07Accepted ((i, (wp, wq), sp, sq), (fp, fq), (kp, kq), (lp, lq), (ap, aq), zp, zq)), trivial⟩ [] (k := 3) (fn := Tryz.f25) rfl rfl rfl rfl rfl rfl ?_
    (repeat' ((try (conv => whnf)); first | (with_reducible first | refine And.intro ?_ ?_ | refine WX.of ?_) | exact zc | ((with_reducible refine VC.mk ?_); exact zw) | ((with_reducible refine splitT_of ?_ ?_); (focus (simp only [hb, hc, ha, Bool.not_true, Bool.not_false, decide_true, decide_false]; done))) | ((with_reducible refine splitF_of ?_ ?_); (focus (simp only [hb, hc, ha, Bool.not_true, Bool.not_false, decide_true, decide_false]; done))) | ((with_reducible refine VC.mk ?_); exact hq) | ((with_reducible refine VC.mk ?_); exact hch) | ((with_reducible refine VC.mk ?_); exact ⟨⟨hq.1, hq.2.1⟩, hb, rfl⟩) | (with_reducible first | refine splitT ?_ | refine splitF ?_) | ((with_reducible refine splitM.mk (fun hsm => ?_) (fun hsm => ?_)) <;> (try exact zx)) | ((with_reducible refine splitB.mk (fun h => ?_) (fun h => ?_)) <;> (try simp only [zs, ne_eq] at h) <;> (try simp (disch := omega) only [w64] at h) <;> (try exact zx)) | (with_reducible intro hz; (try exact absurd hz (Nat.succ_ne_zero _)))))
  | true =>
  have hsp := (acc_sp hb ha).1
  by_cases hso : soC (seg C cs cn) ci day = 0
  rotate_left 1
  · rw [(ag_3 rfl rfl hso).1, (ag_3 rfl rfl hso).2]
    refine funW tabOk (E := [(70, s_l07Ok), (71, s_l05Ok), (72, (s_acc ((i, (wp, wq), sp, sq), (fp, fq), (kp, kq), (lp, lq), (ap, aq), zp, zq))), (73, s_SpanOn)]) ⟨ok_l07Ok, ok_ValidChainS, (ok_l07Accepted ((i, (wp, wq), sp, sq), (fp, fq), (kp, kq), (lp, lq), (ap, aq), zp, zq)), ok_SpanOnS, trivial⟩ [] (k := 3) (fn := Tryz.f25) rfl rfl rfl rfl rfl rfl ?_
    (repeat' ((try (conv => whnf)); first | (with_reducible first | refine And.intro ?_ ?_ | refine WX.of ?_) | exact zc | ((with_reducible refine VC.mk ?_); exact zw) | ((with_reducible refine splitT_of ?_ ?_); (focus (simp only [hb, hc, ha, hso, Bool.not_true, Bool.not_false, decide_true, decide_false]; done))) | ((with_reducible refine splitF_of ?_ ?_); (focus (simp only [hb, hc, ha, hso, Bool.not_true, Bool.not_false, decide_true, decide_false]; done))) | ((with_reducible refine VC.mk ?_); exact hq) | ((with_reducible refine VC.mk ?_); exact hch) | ((with_reducible refine VC.mk ?_); exact ⟨⟨hq.1, hq.2.1⟩, hb, rfl⟩) | (with_reducible first | refine splitT ?_ | refine splitF ?_) | ((with_reducible refine splitM.mk (fun hsm => ?_) (fun hsm => ?_)) <;> (try exact zx)) | ((with_reducible refine splitB.mk (fun h => ?_) (fun h => ?_)) <;> (try simp only [zs, ne_eq] at h) <;> (try simp (disch := omega) only [w64] at h) <;> (try exact zx)) | (with_reducible intro hz; (try exact absurd hz (Nat.succ_ne_zero _)))))
  · rw [(ag_4 rfl rfl hso).1, (ag_4 rfl rfl hso).2]
    have hs2 := smS_ok (so_sp hso).1
    have hs1 := smS_ok hsp
    refine funW tabOk (E := [(70, s_l07Ok), (71, s_l05Ok), (72, (s_acc ((i, (wp, wq), sp, sq), (fp, fq), (kp, kq), (lp, lq), (ap, aq), zp, zq))), (73, s_SpanOn), (74, s_agst)]) ⟨ok_l07Ok, ok_ValidChainS, (ok_l07Accepted ((i, (wp, wq), sp, sq), (fp, fq), (kp, kq), (lp, lq), (ap, aq), zp, zq)), ok_SpanOnS, ok_l01Against, trivial⟩ [] (k := 3) (fn := Tryz.f25) rfl rfl rfl rfl rfl rfl ?_
    (repeat' ((try (conv => whnf)); first | (with_reducible first | refine And.intro ?_ ?_ | refine WX.of ?_) | exact zc | ((with_reducible refine VC.mk ?_); exact zw) | ((with_reducible refine splitT_of ?_ ?_); (focus (simp only [hb, hc, ha, hso, Bool.not_true, Bool.not_false, decide_true, decide_false]; done))) | ((with_reducible refine splitF_of ?_ ?_); (focus (simp only [hb, hc, ha, hso, Bool.not_true, Bool.not_false, decide_true, decide_false]; done))) | ((with_reducible refine VC.mk ?_); exact hq) | ((with_reducible refine VC.mk ?_); exact hch) | ((with_reducible refine VC.mk ?_); exact ⟨⟨hq.1, hq.2.1⟩, hb, rfl⟩) | ((with_reducible refine VC.mk ?_); exact ⟨hs1, hs2⟩) | (with_reducible first | refine splitT ?_ | refine splitF ?_) | ((with_reducible refine splitM.mk (fun hsm => ?_) (fun hsm => ?_)) <;> (try exact zx)) | ((with_reducible refine splitB.mk (fun h => ?_) (fun h => ?_)) <;> (try simp only [zs, ne_eq] at h) <;> (try simp (disch := omega) only [w64] at h) <;> (try exact zx)) | (with_reducible intro hz; (try exact absurd hz (Nat.succ_ne_zero _)))))
end Go.Proofs.YtonnkpclllmkoaaGreat.Eng
set_option linter.unusedVariables false
set_option linter.unusedSimpArgs false
namespace Go.Proofs.YtonnkpclllmkoaaGreat.Eng
open Go Go.RowKit
set_option maxRecDepth 100000
def s_toSpan : Spec := fun args S => match args, S with
  | [.agg [.int .i64 p, .int .i64 q, .int .i64 r, .int .i64 s]], [] => ⟨True, .agg [.int .i64 p, .int .i64 q, .int .i64 r, .int .i64 s], []⟩
  | _, _ => noSpec
theorem ok_toSpan : SpecOk Tryz.prog 80 s_toSpan := by
  intro args S h; unfold s_toSpan at h ⊢; (split at h <;> first | exact False.elim h | skip)
  dsimp only at h ⊢
  refine funW tabOk (E := [(77, s_toFrac)]) ⟨ok_toFrac, trivial⟩ [] (k := 0) (fn := Tryz.f80) rfl rfl rfl rfl rfl rfl ?_
  (repeat' ((try (conv => whnf)); first | (with_reducible first | refine And.intro ?_ ?_ | refine WX.of ?_) | exact zc | ((with_reducible refine VC.mk ?_); exact zw) | (with_reducible first | refine splitT ?_ | refine splitF ?_) | ((with_reducible refine splitM.mk (fun hsm => ?_) (fun hsm => ?_)) <;> (try exact zx)) | ((with_reducible refine splitB.mk (fun h => ?_) (fun h => ?_)) <;> (try simp only [zs, ne_eq] at h) <;> (try simp (disch := omega) only [w64] at h) <;> (try exact zx)) | (with_reducible intro hz; (try exact absurd hz (Nat.succ_ne_zero _)))))
end Go.Proofs.YtonnkpclllmkoaaGreat.Eng
set_option linter.unusedVariables false
set_option linter.unusedSimpArgs false
namespace Go.Proofs.YtonnkpclllmkoaaGreat.Eng
open Go Go.RowKit
set_option maxRecDepth 100000
def s_szStandard : Spec := fun args S => match args, S with
  | [.agg [.str nm, .int .i64 fr, .int .i64 p, .int .i64 q, .int .i64 p', .int .i64 q', .int .i64 dp, .int .i64 dq, .int .i64 md, .int .i64 gd], .int .i64 k], [] => ⟨(0 ≤ k ∧ k ≤ 1048576) ∧ nm.length ≤ 9223372036854775807, .int .i64 (max (-1) (k - nm.length)), []⟩
  | _, _ => noSpec
theorem ok_szStandard : SpecOk Tryz.prog 69 s_szStandard := by
  intro args S h; unfold s_szStandard at h ⊢; (split at h <;> first | exact False.elim h | skip)
  dsimp only at h ⊢
  refine funW tabOk (E := []) trivial [] (k := 0) (fn := Tryz.f69) rfl rfl rfl rfl rfl rfl ?_
  (repeat' ((try (conv => whnf)); first | (with_reducible first | refine And.intro ?_ ?_ | refine WX.of ?_) | exact zc | ((with_reducible refine VC.mk ?_); exact zw) | (with_reducible first | refine splitT ?_ | refine splitF ?_) | ((with_reducible refine splitM.mk (fun hsm => ?_) (fun hsm => ?_)) <;> (try exact zx)) | ((with_reducible refine splitB.mk (fun h => ?_) (fun h => ?_)) <;> (try simp only [zs, ne_eq] at h) <;> (try simp (disch := omega) only [w64] at h) <;> (try exact zx)) | (with_reducible intro hz; (try exact absurd hz (Nat.succ_ne_zero _)))))
  all_goals (refine ⟨?_⟩; (try rw [w64 (by omega)]); congr 1; omega)
def s_szStandardS : Spec := fun args S => match args, S with
  | [.opt c 0 n 0, .int .i64 k], [.arrO (.prod .str (.prod (.int .i64) (.prod (.prod (.prod (.int .i64) (.int .i64)) (.prod (.int .i64) (.int .i64))) (.prod (.prod (.int .i64) (.int .i64)) (.prod (.int .i64) (.int .i64)))))) l 10] => ⟨(0 ≤ k ∧ k ≤ 1048576) ∧ (n ≤ l.length ∧ (c = true → l = [])) ∧ n ≤ 9223372036854775807 ∧ (∀ (j : Nat) a, l[j]? = some a → a.1.length ≤ 9223372036854775807), .int .i64 (max (-1) (k - n - tot (fun a : StT => a.1.length) (seg l 0 n))), [.arrO (.prod .str (.prod (.int .i64) (.prod (.prod (.prod (.int .i64) (.int .i64)) (.prod (.int .i64) (.int .i64))) (.prod (.prod (.int .i64) (.int .i64)) (.prod (.int .i64) (.int .i64)))))) l 10]⟩
  | _, _ => noSpec
theorem szStandardS_none {v : SV} (hv : v = .nils ∨ v = .sl 0 0 0 0) {k : Int} (hk : 0 ≤ k ∧ k ≤ 1048576) : RunsS Tryz.prog 24 [v, .int .i64 k] [.gone] (.int .i64 k) [.gone] := by
  rcases hv with rfl | rfl
  all_goals
    refine funW tabOk (E := [(69, s_szStandard)]) ⟨ok_szStandard, trivial⟩ [] (k := 1) (fn := Tryz.f24) rfl rfl rfl rfl rfl rfl ?_
    (repeat' ((try (conv => whnf)); first | (with_reducible first | refine And.intro ?_ ?_ | refine WX.of ?_) | exact zc | ((with_reducible refine VC.mk ?_); exact zw) | (with_reducible first | refine splitT ?_ | refine splitF ?_) | ((with_reducible refine splitM.mk (fun hsm => ?_) (fun hsm => ?_)) <;> (try exact zx)) | ((with_reducible refine splitB.mk (fun h => ?_) (fun h => ?_)) <;> (try simp only [zs, ne_eq] at h) <;> (try simp (disch := omega) only [w64] at h) <;> (try exact zx)) | (with_reducible intro hz; (try exact absurd hz (Nat.succ_ne_zero _)))))
    refine loop1 tabOk (E := [(69, s_szStandard)]) ⟨ok_szStandard, trivial⟩ [] ?_
    (repeat' ((try (conv => whnf)); first | (with_reducible first | refine And.intro ?_ ?_ | refine WX.of ?_) | exact zc | ((with_reducible refine VC.mk ?_); exact zw) | (with_reducible first | refine splitT ?_ | refine splitF ?_) | ((with_reducible refine splitM.mk (fun hsm => ?_) (fun hsm => ?_)) <;> (try exact zx)) | ((with_reducible refine splitB.mk (fun h => ?_) (fun h => ?_)) <;> (try simp only [zs, ne_eq] at h) <;> (try simp (disch := omega) only [w64] at h) <;> (try exact zx)) | (with_reducible intro hz; (try exact absurd hz (Nat.succ_ne_zero _)))))
theorem szStandardS_sl {s n x : Nat} {l : List StT} {wr : Bool} {k : Int} (h1 : s + n ≤ l.length) (hk : 0 ≤ k ∧ k ≤ 1048576) (hn : n ≤ 9223372036854775807) (ho : ∀ (j : Nat) a, l[j]? = some a → a.1.length ≤ 9223372036854775807) : RunsS Tryz.prog 24 [.sl 0 s n x, .int .i64 k] [.arr (.prod .str (.prod (.int .i64) (.prod (.prod (.prod (.int .i64) (.int .i64)) (.prod (.int .i64) (.int .i64))) (.prod (.prod (.int .i64) (.int .i64)) (.prod (.int .i64) (.int .i64)))))) l 10 wr] (.int .i64 (max (-1) (k - n - tot (fun a : StT => a.1.length) (seg l s n)))) [.arr (.prod .str (.prod (.int .i64) (.prod (.prod (.prod (.int .i64) (.int .i64)) (.prod (.int .i64) (.int .i64))) (.prod (.prod (.int .i64) (.int .i64)) (.prod (.int .i64) (.int .i64)))))) l 10 wr] := by
  have hL := seg_len h1
  refine funW tabOk (E := [(69, s_szStandard)]) ⟨ok_szStandard, trivial⟩ [] (k := 1) (fn := Tryz.f24) rfl rfl rfl rfl rfl rfl ?_
  (repeat' ((try (conv => whnf)); first | (with_reducible first | refine And.intro ?_ ?_ | refine WX.of ?_) | exact zc | ((with_reducible refine VC.mk ?_); exact zw) | (with_reducible first | refine splitT ?_ | refine splitF ?_) | ((with_reducible refine splitM.mk (fun hsm => ?_) (fun hsm => ?_)) <;> (try exact zx)) | ((with_reducible refine splitB.mk (fun h => ?_) (fun h => ?_)) <;> (try simp only [zs, ne_eq] at h) <;> (try simp (disch := omega) only [w64] at h) <;> (try exact zx)) | (with_reducible intro hz; (try exact absurd hz (Nat.succ_ne_zero _)))))
  refine loopW tabOk (E := [(69, s_szStandard)]) ⟨ok_szStandard, trivial⟩ [] (σ := Nat) (fun i => [(0, .sl 0 s n x), (1, .int .i64 (k - n - tot (fun a : StT => a.1.length) ((seg l s n).take i))), (5, .int .i64 i)]) (fun i => [.arr (.prod .str (.prod (.int .i64) (.prod (.prod (.prod (.int .i64) (.int .i64)) (.prod (.int .i64) (.int .i64))) (.prod (.prod (.int .i64) (.int .i64)) (.prod (.int .i64) (.int .i64)))))) l 10 wr]) (fun i => n - i) (fun i => i ≤ n ∧ (tot (fun a : StT => a.1.length) ((seg l s n).take i) : Int) ≤ k - n) 0 ⟨Nat.zero_le _, by simp [tot]; omega⟩ ?_ ?_
  · (repeat' ((try (conv => whnf)); first | (with_reducible first | refine And.intro ?_ ?_ | refine WX.of ?_) | exact zc | ((with_reducible refine VC.mk ?_); exact zw) | (with_reducible first | refine splitT ?_ | refine splitF ?_) | ((with_reducible refine splitM.mk (fun hsm => ?_) (fun hsm => ?_)) <;> (try exact zx)) | ((with_reducible refine splitB.mk (fun h => ?_) (fun h => ?_)) <;> (try simp only [zs, ne_eq] at h) <;> (try simp (disch := omega) only [w64] at h) <;> (try exact zx)) | (with_reducible intro hz; (try exact absurd hz (Nat.succ_ne_zero _)))))
    all_goals (refine ⟨?_⟩; rw [w64 (by omega)]; simp [tot])
  · intro i ⟨hi, hp⟩
    by_cases hlt : i < n
    · obtain ⟨⟨nm, fr, ⟨⟨p, q⟩, p', q'⟩, ⟨dp, dq⟩, md, gd⟩, ha⟩ := get_some (l := seg l s n) (i := i) (by omega)
      have hno := ho _ _ (seg_get ha).1
      dsimp only at hno
      have hst := tot_step (f := fun a : StT => a.1.length) ha
      dsimp only at hst
      have hle := tot_le (f := fun a : StT => a.1.length) (L := seg l s n) (i + 1)
      (repeat' ((try (conv => whnf)); first | (with_reducible first | refine And.intro ?_ ?_ | refine WX.of ?_) | exact zc | ((with_reducible refine VC.mk ?_); exact zw) | refine atL_i ha ?_ | (with_reducible first | refine splitT ?_ | refine splitF ?_) | ((with_reducible refine splitM.mk (fun hsm => ?_) (fun hsm => ?_)) <;> (try exact zx)) | ((with_reducible refine splitB.mk (fun h => ?_) (fun h => ?_)) <;> (try simp only [zs, ne_eq] at h) <;> (try simp (disch := omega) only [w64] at h) <;> (try exact zx)) | (with_reducible intro hz; (try exact absurd hz (Nat.succ_ne_zero _)))))
      refine ⟨i + 1, by omega, ⟨hlt, by omega⟩, ?_⟩
      (repeat' ((try (conv => whnf)); first | (with_reducible first | refine And.intro ?_ ?_ | refine WX.of ?_) | exact zc | ((with_reducible refine VC.mk ?_); exact zw) | (with_reducible first | refine splitT ?_ | refine splitF ?_) | ((with_reducible refine splitM.mk (fun hsm => ?_) (fun hsm => ?_)) <;> (try exact zx)) | ((with_reducible refine splitB.mk (fun h => ?_) (fun h => ?_)) <;> (try simp only [zs, ne_eq] at h) <;> (try simp (disch := omega) only [w64] at h) <;> (try exact zx)) | (with_reducible intro hz; (try exact absurd hz (Nat.succ_ne_zero _)))))
    · obtain rfl : i = n := by omega
      rw [List.take_of_length_le (by omega)] at hp ⊢
      (repeat' ((try (conv => whnf)); first | (with_reducible first | refine And.intro ?_ ?_ | refine WX.of ?_) | exact zc | ((with_reducible refine VC.mk ?_); exact zw) | (with_reducible first | refine splitT ?_ | refine splitF ?_) | ((with_reducible refine splitM.mk (fun hsm => ?_) (fun hsm => ?_)) <;> (try exact zx)) | ((with_reducible refine splitB.mk (fun h => ?_) (fun h => ?_)) <;> (try simp only [zs, ne_eq] at h) <;> (try simp (disch := omega) only [w64] at h) <;> (try exact zx)) | (with_reducible intro hz; (try exact absurd hz (Nat.succ_ne_zero _)))))
theorem ok_szStandardS : SpecOk Tryz.prog 24 s_szStandardS := by
  intro args S h; unfold s_szStandardS at h ⊢; (split at h <;> first | exact False.elim h | skip)
  dsimp only at h ⊢
  rename_i c n k l
  obtain ⟨h1, ⟨h2, h3⟩, h4, h5⟩ := h
  refine RunsS.opt (pre := []) (post := [_]) rfl rfl h2 (fun hn _ hl => ?_) (fun hn _ hl => ?_) (szStandardS_sl (by simpa using h2) h1 h4 h5) h3
  · subst hn; subst hl
    simpa [seg, tot, show max (-1) k = k by omega] using szStandardS_none (.inl rfl) h1
  · subst hn; subst hl
    simpa [seg, tot, show max (-1) k = k by omega] using szStandardS_none (.inr rfl) h1
def s_toStandard : Spec := fun args S => match args, S with
  | [.agg [.str nm, .int .i64 fr, .int .i64 p, .int .i64 q, .int .i64 p', .int .i64 q', .int .i64 dp, .int .i64 dq, .int .i64 md, .int .i64 gd]], [] => ⟨True, .agg [.str nm, .int .i64 fr, .int .i64 p, .int .i64 q, .int .i64 p', .int .i64 q', .int .i64 dp, .int .i64 dq, .int .i64 md, .int .i64 gd], []⟩
  | _, _ => noSpec
theorem ok_toStandard : SpecOk Tryz.prog 81 s_toStandard := by
  intro args S h; unfold s_toStandard at h ⊢; (split at h <;> first | exact False.elim h | skip)
  dsimp only at h ⊢
  refine funW tabOk (E := [(77, s_toFrac), (80, s_toSpan)]) ⟨ok_toFrac, ok_toSpan, trivial⟩ [] (k := 0) (fn := Tryz.f81) rfl rfl rfl rfl rfl rfl ?_
  (repeat' ((try dsimp only); (try (conv => whnf)); first | (with_reducible first | refine And.intro ?_ ?_ | refine WX.of ?_) | exact zc | ((with_reducible refine VC.mk ?_); exact zw) | (with_reducible first | refine splitT ?_ | refine splitF ?_) | ((with_reducible refine splitM.mk (fun hsm => ?_) (fun hsm => ?_)) <;> (try exact zx)) | ((with_reducible refine splitB.mk (fun h => ?_) (fun h => ?_)) <;> (try simp only [zs, ne_eq] at h) <;> (try simp (disch := omega) only [w64] at h) <;> (try exact zx)) | (with_reducible intro hz; (try exact absurd hz (Nat.succ_ne_zero _)))))
def s_eqSpanC : Spec := fun args S => match args, S with
  | [.agg [.int .i64 p, .int .i64 q, .int .i64 p', .int .i64 q'], .agg [.int .i64 r, .int .i64 s, .int .i64 r', .int .i64 s']], [] => ⟨True, .bool ((decide (p = r) && decide (q = s)) && (decide (p' = r') && decide (q' = s'))), []⟩
  | _, _ => noSpec
theorem ok_eqSpanC : SpecOk Tryz.prog 30 s_eqSpanC := by
  intro args S h; unfold s_eqSpanC at h ⊢; (split at h <;> first | exact False.elim h | skip)
  dsimp only at h ⊢
  refine funW tabOk (E := [(85, s_eqFrac)]) ⟨ok_eqFrac, trivial⟩ [] (k := 0) (fn := Tryz.f30) rfl rfl rfl rfl rfl rfl ?_
  (repeat' ((try (conv => whnf)); first | (with_reducible first | refine And.intro ?_ ?_ | refine WX.of ?_) | exact zc | ((with_reducible refine VC.mk ?_); exact zw) | (with_reducible first | refine splitT ?_ | refine splitF ?_) | ((with_reducible refine splitM.mk (fun hsm => ?_) (fun hsm => ?_)) <;> (try exact zx)) | ((with_reducible refine splitB.mk (fun h => ?_) (fun h => ?_)) <;> (try simp only [zs, ne_eq] at h) <;> (try simp (disch := omega) only [w64] at h) <;> (try exact zx)) | (with_reducible intro hz; (try exact absurd hz (Nat.succ_ne_zero _)))))
  all_goals (refine ⟨?_⟩; simp_all)
def s_eqStandard : Spec := fun args S => match args, S with
  | [.agg [.str nm, .int .i64 fr, .int .i64 p, .int .i64 q, .int .i64 p', .int .i64 q', .int .i64 dp, .int .i64 dq, .int .i64 md, .int .i64 gd], .agg [.str nm0, .int .i64 fr0, .int .i64 p0, .int .i64 q0, .int .i64 p0', .int .i64 q0', .int .i64 dp0, .int .i64 dq0, .int .i64 md0, .int .i64 gd0]], [] => ⟨True, .bool (decide ((nm, fr, ((p, q), p', q'), (dp, dq), md, gd) = (nm0, fr0, ((p0, q0), p0', q0'), (dp0, dq0), md0, gd0))), []⟩
  | _, _ => noSpec
theorem ok_eqStandard : SpecOk Tryz.prog 89 s_eqStandard := by
  intro args S h; unfold s_eqStandard at h ⊢; (split at h <;> first | exact False.elim h | skip)
  dsimp only at h ⊢
  refine funW tabOk (E := [(85, s_eqFrac), (30, s_eqSpanC)]) ⟨ok_eqFrac, ok_eqSpanC, trivial⟩ [] (k := 0) (fn := Tryz.f89) rfl rfl rfl rfl rfl rfl ?_
  (repeat' ((try (conv => whnf)); first | (with_reducible first | refine And.intro ?_ ?_ | refine WX.of ?_) | exact zc | ((with_reducible refine VC.mk ?_); exact zw) | (with_reducible first | refine splitT ?_ | refine splitF ?_) | ((with_reducible refine splitM.mk (fun hsm => ?_) (fun hsm => ?_)) <;> (try exact zx)) | ((with_reducible refine splitB.mk (fun h => ?_) (fun h => ?_)) <;> (try simp only [zs, ne_eq] at h) <;> (try simp (disch := omega) only [w64] at h) <;> (try exact zx)) | (with_reducible intro hz; (try exact absurd hz (Nat.succ_ne_zero _)))))
  all_goals (refine ⟨?_⟩; simp_all)
def s_toStandardS : Spec := fun args S => match args, S with
  | [.opt c 0 n 0], [.arrO (.prod .str (.prod (.int .i64) (.prod (.prod (.prod (.int .i64) (.int .i64)) (.prod (.int .i64) (.int .i64))) (.prod (.prod (.int .i64) (.int .i64)) (.prod (.int .i64) (.int .i64)))))) l 10] => ⟨n ≤ l.length ∧ (c = true → l = []) ∧ n ≤ 1048576, .sl 1 0 n 0, [.arrO (.prod .str (.prod (.int .i64) (.prod (.prod (.prod (.int .i64) (.int .i64)) (.prod (.int .i64) (.int .i64))) (.prod (.prod (.int .i64) (.int .i64)) (.prod (.int .i64) (.int .i64)))))) l 10, .arr (.prod .str (.prod (.int .i64) (.prod (.prod (.prod (.int .i64) (.int .i64)) (.prod (.int .i64) (.int .i64))) (.prod (.prod (.int .i64) (.int .i64)) (.prod (.int .i64) (.int .i64)))))) (seg l 0 n) 10 true]⟩
  | [.sl 0 s n x], [.arr (.prod .str (.prod (.int .i64) (.prod (.prod (.prod (.int .i64) (.int .i64)) (.prod (.int .i64) (.int .i64))) (.prod (.prod (.int .i64) (.int .i64)) (.prod (.int .i64) (.int .i64)))))) l 10 wr] => ⟨s + n ≤ l.length ∧ n ≤ 1048576, .sl 1 0 n 0, [.arr (.prod .str (.prod (.int .i64) (.prod (.prod (.prod (.int .i64) (.int .i64)) (.prod (.int .i64) (.int .i64))) (.prod (.prod (.int .i64) (.int .i64)) (.prod (.int .i64) (.int .i64)))))) l 10 wr, .arr (.prod .str (.prod (.int .i64) (.prod (.prod (.prod (.int .i64) (.int .i64)) (.prod (.int .i64) (.int .i64))) (.prod (.prod (.int .i64) (.int .i64)) (.prod (.int .i64) (.int .i64)))))) (seg l s n) 10 true]⟩
  | _, _ => noSpec
theorem toStandardS_sl {s n x : Nat} {l : List (ET.T (.prod .str (.prod (.int .i64) (.prod (.prod (.prod (.int .i64) (.int .i64)) (.prod (.int .i64) (.int .i64))) (.prod (.prod (.int .i64) (.int .i64)) (.prod (.int .i64) (.int .i64)))))))} {wr : Bool} (h : s + n ≤ l.length ∧ n ≤ 1048576) : RunsS Tryz.prog 28 [.sl 0 s n x] [.arr (.prod .str (.prod (.int .i64) (.prod (.prod (.prod (.int .i64) (.int .i64)) (.prod (.int .i64) (.int .i64))) (.prod (.prod (.int .i64) (.int .i64)) (.prod (.int .i64) (.int .i64)))))) l 10 wr] (.sl 1 0 n 0) [.arr (.prod .str (.prod (.int .i64) (.prod (.prod (.prod (.int .i64) (.int .i64)) (.prod (.int .i64) (.int .i64))) (.prod (.prod (.int .i64) (.int .i64)) (.prod (.int .i64) (.int .i64)))))) l 10 wr, .arr (.prod .str (.prod (.int .i64) (.prod (.prod (.prod (.int .i64) (.int .i64)) (.prod (.int .i64) (.int .i64))) (.prod (.prod (.int .i64) (.int .i64)) (.prod (.int .i64) (.int .i64)))))) (seg l s n) 10 true] := by
  have hL := seg_len h.1
  refine funW tabOk (E := [(81, s_toStandard)]) ⟨ok_toStandard, trivial⟩ [] (k := 1) (fn := Tryz.f28) rfl rfl rfl rfl rfl rfl ?_
  (repeat' ((try (conv => whnf)); first | (with_reducible first | refine And.intro ?_ ?_ | refine WX.of ?_) | exact zc | ((with_reducible refine VC.mk ?_); exact zw) | ((with_reducible refine VC.mk ?_); (refine ⟨?_, rfl, ?_, ?_⟩); (omega); (refine Int.le_trans (Int.mul_le_mul_of_nonneg_right (b := 100000) ?_ ?_) ?_; (decide); (omega); (omega)); (omega)) | (with_reducible first | refine splitT ?_ | refine splitF ?_) | ((with_reducible refine splitM.mk (fun hsm => ?_) (fun hsm => ?_)) <;> (try exact zx)) | ((with_reducible refine splitB.mk (fun h => ?_) (fun h => ?_)) <;> (try simp only [zs, ne_eq] at h) <;> (try simp (disch := omega) only [w64] at h) <;> (try exact zx)) | (with_reducible intro hz; (try exact absurd hz (Nat.succ_ne_zero _)))))
  refine loopW tabOk (E := [(81, s_toStandard)]) ⟨ok_toStandard, trivial⟩ [] (σ := Nat) (fun i => [(0, .sl 0 s n x), (3, .sl 1 0 n 0), (4, .int .i64 i)]) (fun i => [.arr (.prod .str (.prod (.int .i64) (.prod (.prod (.prod (.int .i64) (.int .i64)) (.prod (.int .i64) (.int .i64))) (.prod (.prod (.int .i64) (.int .i64)) (.prod (.int .i64) (.int .i64)))))) l 10 wr, .arr (.prod .str (.prod (.int .i64) (.prod (.prod (.prod (.int .i64) (.int .i64)) (.prod (.int .i64) (.int .i64))) (.prod (.prod (.int .i64) (.int .i64)) (.prod (.int .i64) (.int .i64)))))) ((seg l s n).take i ++ List.replicate (n - i) ((([], 0, ((0, 0), 0, 0), (0, 0), 0, 0) : StT) : ET.T (.prod .str (.prod (.int .i64) (.prod (.prod (.prod (.int .i64) (.int .i64)) (.prod (.int .i64) (.int .i64))) (.prod (.prod (.int .i64) (.int .i64)) (.prod (.int .i64) (.int .i64)))))))) 10 true]) (fun i => n - i) (fun i => i ≤ n) 0 (Nat.zero_le _) ?_ ?_
  · (repeat' ((try (conv => whnf)); first | (with_reducible first | refine And.intro ?_ ?_ | refine WX.of ?_) | exact zc | ((with_reducible refine VC.mk ?_); exact zw) | (with_reducible first | refine splitT ?_ | refine splitF ?_) | ((with_reducible refine splitM.mk (fun hsm => ?_) (fun hsm => ?_)) <;> (try exact zx)) | ((with_reducible refine splitB.mk (fun h => ?_) (fun h => ?_)) <;> (try simp only [zs, ne_eq] at h) <;> (try simp (disch := omega) only [w64] at h) <;> (try exact zx)) | (with_reducible intro hz; (try exact absurd hz (Nat.succ_ne_zero _)))))
    all_goals exact ⟨by simp⟩
  · intro i hi
    by_cases hlt : i < n
    · obtain ⟨⟨nm, fr, ⟨⟨p, q⟩, p', q'⟩, ⟨dp, dq⟩, md, gd⟩, ha⟩ := get_some (l := seg l s n) (i := i) (by omega)
      (repeat' ((try (conv => whnf)); first | (with_reducible first | refine And.intro ?_ ?_ | refine WX.of ?_) | exact zc | ((with_reducible refine VC.mk ?_); exact zw) | refine atL_i ha ?_ | refine atL_0 (fill_at hL hlt) ?_ | (with_reducible first | refine splitT ?_ | refine splitF ?_) | ((with_reducible refine splitM.mk (fun hsm => ?_) (fun hsm => ?_)) <;> (try exact zx)) | ((with_reducible refine splitB.mk (fun h => ?_) (fun h => ?_)) <;> (try simp only [zs, ne_eq] at h) <;> (try simp (disch := omega) only [w64] at h) <;> (try exact zx)) | (with_reducible intro hz; (try exact absurd hz (Nat.succ_ne_zero _)))))
      refine ⟨i + 1, by omega, hlt, ?_⟩
      (repeat' ((try (conv => whnf)); first | (with_reducible first | refine And.intro ?_ ?_ | refine WX.of ?_) | exact zc | ((with_reducible refine VC.mk ?_); exact zw) | (with_reducible first | refine splitT ?_ | refine splitF ?_) | ((with_reducible refine splitM.mk (fun hsm => ?_) (fun hsm => ?_)) <;> (try exact zx)) | ((with_reducible refine splitB.mk (fun h => ?_) (fun h => ?_)) <;> (try simp only [zs, ne_eq] at h) <;> (try simp (disch := omega) only [w64] at h) <;> (try exact zx)) | (with_reducible intro hz; (try exact absurd hz (Nat.succ_ne_zero _)))))
      exact ⟨by simp [fill_step hL ha]⟩
    · (repeat' ((try (conv => whnf)); first | (with_reducible first | refine And.intro ?_ ?_ | refine WX.of ?_) | exact zc | ((with_reducible refine VC.mk ?_); exact zw) | (with_reducible first | refine splitT ?_ | refine splitF ?_) | ((with_reducible refine splitM.mk (fun hsm => ?_) (fun hsm => ?_)) <;> (try exact zx)) | ((with_reducible refine splitB.mk (fun h => ?_) (fun h => ?_)) <;> (try simp only [zs, ne_eq] at h) <;> (try simp (disch := omega) only [w64] at h) <;> (try exact zx)) | (with_reducible intro hz; (try exact absurd hz (Nat.succ_ne_zero _)))))
      obtain rfl : i = n := by omega
      exact ⟨by rw [fill_end hL]⟩
theorem toStandardS_none {v : SV} (hv : v = .nils ∨ v = .sl 0 0 0 0) : RunsS Tryz.prog 28 [v] [.gone] (.sl 1 0 0 0) [.gone, .arr (.prod .str (.prod (.int .i64) (.prod (.prod (.prod (.int .i64) (.int .i64)) (.prod (.int .i64) (.int .i64))) (.prod (.prod (.int .i64) (.int .i64)) (.prod (.int .i64) (.int .i64)))))) [] 10 true] := by
  rcases hv with rfl | rfl
  all_goals
    refine funW tabOk (E := [(81, s_toStandard)]) ⟨ok_toStandard, trivial⟩ [] (k := 1) (fn := Tryz.f28) rfl rfl rfl rfl rfl rfl ?_
    (repeat' ((try (conv => whnf)); first | (with_reducible first | refine And.intro ?_ ?_ | refine WX.of ?_) | exact zc | ((with_reducible refine VC.mk ?_); exact zw) | (with_reducible first | refine splitT ?_ | refine splitF ?_) | ((with_reducible refine splitM.mk (fun hsm => ?_) (fun hsm => ?_)) <;> (try exact zx)) | ((with_reducible refine splitB.mk (fun h => ?_) (fun h => ?_)) <;> (try simp only [zs, ne_eq] at h) <;> (try simp (disch := omega) only [w64] at h) <;> (try exact zx)) | (with_reducible intro hz; (try exact absurd hz (Nat.succ_ne_zero _)))))
    refine loop1 tabOk (E := [(81, s_toStandard)]) ⟨ok_toStandard, trivial⟩ [] ?_
    (repeat' ((try (conv => whnf)); first | (with_reducible first | refine And.intro ?_ ?_ | refine WX.of ?_) | exact zc | ((with_reducible refine VC.mk ?_); exact zw) | (with_reducible first | refine splitT ?_ | refine splitF ?_) | ((with_reducible refine splitM.mk (fun hsm => ?_) (fun hsm => ?_)) <;> (try exact zx)) | ((with_reducible refine splitB.mk (fun h => ?_) (fun h => ?_)) <;> (try simp only [zs, ne_eq] at h) <;> (try simp (disch := omega) only [w64] at h) <;> (try exact zx)) | (with_reducible intro hz; (try exact absurd hz (Nat.succ_ne_zero _)))))
theorem ok_toStandardS : SpecOk Tryz.prog 28 s_toStandardS := by
  intro args S h; unfold s_toStandardS at h ⊢; (split at h <;> first | exact False.elim h | skip)
  dsimp only at h ⊢
  · exact RunsS.opt (pre := []) (post := []) rfl rfl h.1 (fun hn _ hl => by subst hn; subst hl; exact toStandardS_none (.inl rfl)) (fun hn _ hl => by subst hn; subst hl; exact toStandardS_none (.inr rfl)) (toStandardS_sl ⟨by simpa using h.1, h.2.2⟩) h.2.1
  · exact toStandardS_sl h
instance instF2 : DecidableEq ((Int × Int) × Int × Int) := inferInstance
instance instStT : DecidableEq (ET.T (.prod .str (.prod (.int .i64) (.prod (.prod (.prod (.int .i64) (.int .i64)) (.prod (.int .i64) (.int .i64))) (.prod (.prod (.int .i64) (.int .i64)) (.prod (.int .i64) (.int .i64))))))) := inferInstanceAs (DecidableEq (List UInt8 × Int × ((Int × Int) × Int × Int) × (Int × Int) × Int × Int))
def s_eqStandardS : Spec := fun args S => match args, S with
  | [.sl 0 s n x, .sl 1 s' n' x'], [.arr (.prod .str (.prod (.int .i64) (.prod (.prod (.prod (.int .i64) (.int .i64)) (.prod (.int .i64) (.int .i64))) (.prod (.prod (.int .i64) (.int .i64)) (.prod (.int .i64) (.int .i64)))))) l 10 wr, .arr (.prod .str (.prod (.int .i64) (.prod (.prod (.prod (.int .i64) (.int .i64)) (.prod (.int .i64) (.int .i64))) (.prod (.prod (.int .i64) (.int .i64)) (.prod (.int .i64) (.int .i64)))))) l' 10 wr'] => ⟨s + n ≤ l.length ∧ s' + n' ≤ l'.length ∧ n ≤ 4611686018427387904, .bool (decide (seg l s n = seg l' s' n')), [.arr (.prod .str (.prod (.int .i64) (.prod (.prod (.prod (.int .i64) (.int .i64)) (.prod (.int .i64) (.int .i64))) (.prod (.prod (.int .i64) (.int .i64)) (.prod (.int .i64) (.int .i64)))))) l 10 wr, .arr (.prod .str (.prod (.int .i64) (.prod (.prod (.prod (.int .i64) (.int .i64)) (.prod (.int .i64) (.int .i64))) (.prod (.prod (.int .i64) (.int .i64)) (.prod (.int .i64) (.int .i64)))))) l' 10 wr']⟩
  | [.nils, .sl 0 s' n' x'], [.arr (.prod .str (.prod (.int .i64) (.prod (.prod (.prod (.int .i64) (.int .i64)) (.prod (.int .i64) (.int .i64))) (.prod (.prod (.int .i64) (.int .i64)) (.prod (.int .i64) (.int .i64)))))) l' 10 wr'] => ⟨s' + n' ≤ l'.length ∧ n' = 0, .bool true, [.arr (.prod .str (.prod (.int .i64) (.prod (.prod (.prod (.int .i64) (.int .i64)) (.prod (.int .i64) (.int .i64))) (.prod (.prod (.int .i64) (.int .i64)) (.prod (.int .i64) (.int .i64)))))) l' 10 wr']⟩
  | _, _ => noSpec
theorem eqStandardS_nil {s x : Nat} {l : List (ET.T (.prod .str (.prod (.int .i64) (.prod (.prod (.prod (.int .i64) (.int .i64)) (.prod (.int .i64) (.int .i64))) (.prod (.prod (.int .i64) (.int .i64)) (.prod (.int .i64) (.int .i64)))))))} {wr : Bool} : RunsS Tryz.prog 32 [.nils, .sl 0 s 0 x] [.arr (.prod .str (.prod (.int .i64) (.prod (.prod (.prod (.int .i64) (.int .i64)) (.prod (.int .i64) (.int .i64))) (.prod (.prod (.int .i64) (.int .i64)) (.prod (.int .i64) (.int .i64)))))) l 10 wr] (.bool true) [.arr (.prod .str (.prod (.int .i64) (.prod (.prod (.prod (.int .i64) (.int .i64)) (.prod (.int .i64) (.int .i64))) (.prod (.prod (.int .i64) (.int .i64)) (.prod (.int .i64) (.int .i64)))))) l 10 wr] := by
  refine funW tabOk (E := [(89, s_eqStandard)]) ⟨ok_eqStandard, trivial⟩ [] (k := 1) (fn := Tryz.f32) rfl rfl rfl rfl rfl rfl ?_
  (repeat' ((try (conv => whnf)); first | (with_reducible first | refine And.intro ?_ ?_ | refine WX.of ?_) | exact zc | ((with_reducible refine VC.mk ?_); exact zw) | (with_reducible first | refine splitT ?_ | refine splitF ?_) | ((with_reducible refine splitM.mk (fun hsm => ?_) (fun hsm => ?_)) <;> (try exact zx)) | ((with_reducible refine splitB.mk (fun h => ?_) (fun h => ?_)) <;> (try simp only [zs, ne_eq] at h) <;> (try simp (disch := omega) only [w64] at h) <;> (try exact zx)) | (with_reducible intro hz; (try exact absurd hz (Nat.succ_ne_zero _)))))
  refine loop1 tabOk (E := [(89, s_eqStandard)]) ⟨ok_eqStandard, trivial⟩ [] ?_
  (repeat' ((try (conv => whnf)); first | (with_reducible first | refine And.intro ?_ ?_ | refine WX.of ?_) | exact zc | ((with_reducible refine VC.mk ?_); exact zw) | (with_reducible first | refine splitT ?_ | refine splitF ?_) | ((with_reducible refine splitM.mk (fun hsm => ?_) (fun hsm => ?_)) <;> (try exact zx)) | ((with_reducible refine splitB.mk (fun h => ?_) (fun h => ?_)) <;> (try simp only [zs, ne_eq] at h) <;> (try simp (disch := omega) only [w64] at h) <;> (try exact zx)) | (with_reducible intro hz; (try exact absurd hz (Nat.succ_ne_zero _)))))
theorem ok_eqStandardS : SpecOk Tryz.prog 32 s_eqStandardS := by
  intro args S h; unfold s_eqStandardS at h ⊢; (split at h <;> first | exact False.elim h | skip)
  dsimp only at h ⊢
  rotate_left 1
  · obtain ⟨h1, rfl⟩ := h
    exact eqStandardS_nil
  rename_i s n x s' n' x' l wr l' wr'
  have hL := seg_len h.1
  have hM := seg_len h.2.1
  refine funW tabOk (E := [(89, s_eqStandard)]) ⟨ok_eqStandard, trivial⟩ [] (k := 2) (fn := Tryz.f32) rfl rfl rfl rfl rfl rfl ?_
  (repeat' ((try (conv => whnf)); first | (with_reducible first | refine And.intro ?_ ?_ | refine WX.of ?_) | exact zc | ((with_reducible refine VC.mk ?_); exact zw) | (with_reducible first | refine splitT ?_ | refine splitF ?_) | ((with_reducible refine splitM.mk (fun hsm => ?_) (fun hsm => ?_)) <;> (try exact zx)) | ((with_reducible refine splitB.mk (fun h => ?_) (fun h => ?_)) <;> (try simp only [zs, ne_eq] at h) <;> (try simp (disch := omega) only [w64] at h) <;> (try exact zx)) | (with_reducible intro hz; (try exact absurd hz (Nat.succ_ne_zero _)))))
  · refine ⟨?_⟩
    rw [decide_eq_false]; intro e
    rw [e] at hL; omega
  · obtain rfl : n = n' := by omega
    refine loopW tabOk (E := [(89, s_eqStandard)]) ⟨ok_eqStandard, trivial⟩ [] (σ := Nat) (fun i => [(0, .sl 0 s n x), (1, .sl 1 s' n x'), (5, .int .i64 i)]) (fun i => [.arr (.prod .str (.prod (.int .i64) (.prod (.prod (.prod (.int .i64) (.int .i64)) (.prod (.int .i64) (.int .i64))) (.prod (.prod (.int .i64) (.int .i64)) (.prod (.int .i64) (.int .i64)))))) l 10 wr, .arr (.prod .str (.prod (.int .i64) (.prod (.prod (.prod (.int .i64) (.int .i64)) (.prod (.int .i64) (.int .i64))) (.prod (.prod (.int .i64) (.int .i64)) (.prod (.int .i64) (.int .i64)))))) l' 10 wr']) (fun i => n - i) (fun i => i ≤ n ∧ (seg l s n).take i = (seg l' s' n).take i) 0 ⟨Nat.zero_le _, by simp⟩ ?_ ?_
    · (repeat' ((try (conv => whnf)); first | (with_reducible first | refine And.intro ?_ ?_ | refine WX.of ?_) | exact zc | ((with_reducible refine VC.mk ?_); exact zw) | (with_reducible first | refine splitT ?_ | refine splitF ?_) | ((with_reducible refine splitM.mk (fun hsm => ?_) (fun hsm => ?_)) <;> (try exact zx)) | ((with_reducible refine splitB.mk (fun h => ?_) (fun h => ?_)) <;> (try simp only [zs, ne_eq] at h) <;> (try simp (disch := omega) only [w64] at h) <;> (try exact zx)) | (with_reducible intro hz; (try exact absurd hz (Nat.succ_ne_zero _)))))
    · intro i ⟨hi, hp⟩
      by_cases hlt : i < n
      · obtain ⟨⟨nm, fr, ⟨⟨p, q⟩, p', q'⟩, ⟨dp, dq⟩, md, gd⟩, ha⟩ := get_some (l := seg l s n) (i := i) (by omega)
        obtain ⟨⟨nm0, fr0, ⟨⟨p0, q0⟩, p0', q0'⟩, ⟨dp0, dq0⟩, md0, gd0⟩, hb⟩ := get_some (l := seg l' s' n) (i := i) (by omega)
        (repeat' ((try (conv => whnf)); first | (with_reducible first | refine And.intro ?_ ?_ | refine WX.of ?_) | exact zc | ((with_reducible refine VC.mk ?_); exact zw) | refine atL_i ha ?_ | refine atL_i hb ?_ | (with_reducible first | refine splitT ?_ | refine splitF ?_) | ((with_reducible refine splitM.mk (fun hsm => ?_) (fun hsm => ?_)) <;> (try exact zx)) | ((with_reducible refine splitB.mk (fun h => ?_) (fun h => ?_)) <;> (try simp only [zs, ne_eq] at h) <;> (try simp (disch := omega) only [w64] at h) <;> (try exact zx)) | (with_reducible intro hz; (try exact absurd hz (Nat.succ_ne_zero _)))))
        · refine ⟨?_⟩; rw [decide_eq_false]; exact same_not ha hb (by simpa using h)
        · refine ⟨i + 1, by omega, ⟨hlt, same_step ha hb hp (by simpa using h)⟩, ?_⟩
          (repeat' ((try (conv => whnf)); first | (with_reducible first | refine And.intro ?_ ?_ | refine WX.of ?_) | exact zc | ((with_reducible refine VC.mk ?_); exact zw) | (with_reducible first | refine splitT ?_ | refine splitF ?_) | ((with_reducible refine splitM.mk (fun hsm => ?_) (fun hsm => ?_)) <;> (try exact zx)) | ((with_reducible refine splitB.mk (fun h => ?_) (fun h => ?_)) <;> (try simp only [zs, ne_eq] at h) <;> (try simp (disch := omega) only [w64] at h) <;> (try exact zx)) | (with_reducible intro hz; (try exact absurd hz (Nat.succ_ne_zero _)))))
      · (repeat' ((try (conv => whnf)); first | (with_reducible first | refine And.intro ?_ ?_ | refine WX.of ?_) | exact zc | ((with_reducible refine VC.mk ?_); exact zw) | (with_reducible first | refine splitT ?_ | refine splitF ?_) | ((with_reducible refine splitM.mk (fun hsm => ?_) (fun hsm => ?_)) <;> (try exact zx)) | ((with_reducible refine splitB.mk (fun h => ?_) (fun h => ?_)) <;> (try simp only [zs, ne_eq] at h) <;> (try simp (disch := omega) only [w64] at h) <;> (try exact zx)) | (with_reducible intro hz; (try exact absurd hz (Nat.succ_ne_zero _)))))
        obtain rfl : i = n := by omega
        refine ⟨?_⟩; rw [decide_eq_true]; exact same_end hL hM hp
end Go.Proofs.YtonnkpclllmkoaaGreat.Eng
set_option linter.unusedVariables false
set_option linter.unusedSimpArgs false
namespace Go.Proofs.YtonnkpclllmkoaaGreat.Eng
open Go Go.RowKit
set_option maxRecDepth 100000
/-- A contract whose answer is known, and that leaves the rows alone. -/
def pin (s : Spec) (v : SV) : Spec := fun args S => ⟨(s args S).pre ∧ (s args S).v = v ∧ (s args S).S = S, v, S⟩
theorem ok_pin {P : Program} {f : FuncId} {s : Spec} (h : SpecOk P f s) (v : SV) : SpecOk P f (pin s v) := fun args S hp => by
  have h2 := h args S hp.1
  rw [hp.2.1, hp.2.2] at h2
  exact h2
def s_toReport : Spec := fun args S => match args, S with
  | [.agg [.int .i64 i, .int .i64 wp, .int .i64 wq, .int .i64 sp, .int .i64 sq, .int .i64 fp, .int .i64 fq, .int .i64 kp, .int .i64 kq, .int .i64 lp, .int .i64 lq, .int .i64 ap, .int .i64 aq, .int .i64 zp, .int .i64 zq]], [] => ⟨True, .agg [.int .i64 i, .int .i64 wp, .int .i64 wq, .int .i64 sp, .int .i64 sq, .int .i64 fp, .int .i64 fq, .int .i64 kp, .int .i64 kq, .int .i64 lp, .int .i64 lq, .int .i64 ap, .int .i64 aq, .int .i64 zp, .int .i64 zq], []⟩
  | _, _ => noSpec
set_option maxHeartbeats 3200000 in
theorem ok_toReport : SpecOk Tryz.prog 27 s_toReport := by
  intro args S h; unfold s_toReport at h ⊢; (split at h <;> first | exact False.elim h | skip)
  dsimp only at h ⊢
  refine funW tabOk (E := [(79, s_toShot), (77, s_toFrac), (80, s_toSpan)]) ⟨ok_toShot, ok_toFrac, ok_toSpan, trivial⟩ [] (k := 0) (fn := Tryz.f27) rfl rfl rfl rfl rfl rfl ?_
  (repeat' ((try dsimp only); (try (conv => whnf)); first | (with_reducible first | refine And.intro ?_ ?_ | refine WX.of ?_) | exact zc | ((with_reducible refine VC.mk ?_); exact zw) | (with_reducible first | refine splitT ?_ | refine splitF ?_) | ((with_reducible refine splitM.mk (fun hsm => ?_) (fun hsm => ?_)) <;> (try exact zx)) | ((with_reducible refine splitB.mk (fun h => ?_) (fun h => ?_)) <;> (try simp only [zs, ne_eq] at h) <;> (try simp (disch := omega) only [w64] at h) <;> (try exact zx)) | (with_reducible intro hz; (try exact absurd hz (Nat.succ_ne_zero _)))))
end Go.Proofs.YtonnkpclllmkoaaGreat.Eng
set_option linter.unusedVariables false
set_option linter.unusedSimpArgs false
namespace Go.Proofs.YtonnkpclllmkoaaGreat.Eng
open Go Go.RowKit
set_option maxRecDepth 100000
set_option maxHeartbeats 3200000 in
theorem law_againstStandard {y1 : Int × Int} (ho1 : ET.Ok (.prod (.int .i64) (.int .i64)) y1) {c2 : Bool} {n2 : Nat} {l2 : List (Int × Int)} (hn2 : n2 ≤ l2.length) (hc2 : c2 = true → l2 = []) (ho2 : ∀ y ∈ l2, ET.Ok (.prod (.int .i64) (.int .i64)) y) (hz2 : l2.length ≤ 9223372036854775807) {y3 : Int × Bool} (ho3 : ET.Ok (.prod (.int .i64) .bool) y3) {y4 : Int × Int} (ho4 : ET.Ok (.prod (.int .i64) (.int .i64)) y4) {c5 : Bool} {n5 : Nat} {l5 : List ThT} (hn5 : n5 ≤ l5.length) (hc5 : c5 = true → l5 = []) (ho5 : ∀ y ∈ l5, ET.Ok (.prod .str (.prod (.prod (.int .i64) (.int .i64)) (.prod (.int .i64) (.int .i64)))) y) (hz5 : l5.length ≤ 9223372036854775807) {y6 : RpT} (ho6 : ET.Ok (.prod (.prod (.int .i64) (.prod (.prod (.int .i64) (.int .i64)) (.prod (.int .i64) (.int .i64)))) (.prod (.prod (.int .i64) (.int .i64)) (.prod (.prod (.int .i64) (.int .i64)) (.prod (.prod (.int .i64) (.int .i64)) (.prod (.prod (.int .i64) (.int .i64)) (.prod (.int .i64) (.int .i64))))))) y6) {c7 : Bool} {n7 : Nat} {l7 : List StT} (hn7 : n7 ≤ l7.length) (hc7 : c7 = true → l7 = []) (ho7 : ∀ y ∈ l7, ET.Ok (.prod .str (.prod (.int .i64) (.prod (.prod (.prod (.int .i64) (.int .i64)) (.prod (.int .i64) (.int .i64))) (.prod (.prod (.int .i64) (.int .i64)) (.prod (.int .i64) (.int .i64)))))) y) (hz7 : l7.length ≤ 9223372036854775807) {y8 : Int} (ho8 : -9223372036854775808 ≤ y8 ∧ y8 ≤ 9223372036854775807) {y9 : Int} (ho9 : -9223372036854775808 ≤ y9 ∧ y9 ≤ 9223372036854775807) : RunsS Tryz.prog 4 [.agg [.int .i64 y1.1, .int .i64 y1.2, .opt c2 0 n2 0, .int .i64 y3.1, .bool y3.2, .int .i64 y4.1, .int .i64 y4.2, .opt c5 1 n5 0], .agg (ET.enc (.prod (.prod (.int .i64) (.prod (.prod (.int .i64) (.int .i64)) (.prod (.int .i64) (.int .i64)))) (.prod (.prod (.int .i64) (.int .i64)) (.prod (.prod (.int .i64) (.int .i64)) (.prod (.prod (.int .i64) (.int .i64)) (.prod (.prod (.int .i64) (.int .i64)) (.prod (.int .i64) (.int .i64))))))) y6), .opt c7 2 n7 0, .int .i64 y8, .int .i64 y9] [.arrO (.prod (.int .i64) (.int .i64)) l2 2, .arrO (.prod .str (.prod (.prod (.int .i64) (.int .i64)) (.prod (.int .i64) (.int .i64)))) l5 5, .arrO (.prod .str (.prod (.int .i64) (.prod (.prod (.prod (.int .i64) (.int .i64)) (.prod (.int .i64) (.int .i64))) (.prod (.prod (.int .i64) (.int .i64)) (.prod (.int .i64) (.int .i64)))))) l7 10] (.bool true) [.arrO (.prod (.int .i64) (.int .i64)) l2 2, .arrO (.prod .str (.prod (.prod (.int .i64) (.int .i64)) (.prod (.int .i64) (.int .i64)))) l5 5, .arrO (.prod .str (.prod (.int .i64) (.prod (.prod (.prod (.int .i64) (.int .i64)) (.prod (.int .i64) (.int .i64))) (.prod (.prod (.int .i64) (.int .i64)) (.prod (.int .i64) (.int .i64)))))) l7 10] := by
  have hL : (seg l2 0 n2).length = n2 := seg_len (by omega)
  have hM : (seg l5 0 n5).length = n5 := seg_len (by omega)
  have hb5 : ∀ (j : Nat) (a : ThT), l5[j]? = some a → a.1.length ≤ 9223372036854775807 := fun j a ha => (ho5 a (List.mem_of_getElem? ha)).1
  have hS : seg (seg l2 0 n2) 0 n2 = seg l2 0 n2 := seg_full hL
  have hT : seg (seg l5 0 n5) 0 n5 = seg l5 0 n5 := seg_full hM
  have htt : ∀ (j : Nat) (a : ThT), (seg l5 0 n5)[j]? = some a → a.1.length ≤ tot (fun a : ThT => a.1.length) (seg l5 0 n5) := fun j a ha => tot_at (f := fun a : ThT => a.1.length) ha
  have hL7 : (seg l7 0 n7).length = n7 := seg_len (by omega)
  have hb7 : ∀ (j : Nat) (a : StT), l7[j]? = some a → a.1.length ≤ 9223372036854775807 := fun j a ha => (ho7 a (List.mem_of_getElem? ha)).1
  have hS7 : seg (seg l7 0 n7) 0 n7 = seg l7 0 n7 := seg_full hL7
  have htt7 : ∀ (j : Nat) (a : StT), (seg l7 0 n7)[j]? = some a → a.1.length ≤ tot (fun a : StT => a.1.length) (seg l7 0 n7) := fun j a ha => tot_at (f := fun a : StT => a.1.length) ha
  obtain ⟨p, q, p', q', c, hR⟩ : ∃ (p q p' q' c : Int), (s_agst2 [.agg [.int .i64 y1.1, .int .i64 y1.2, .sl 0 0 n2 0, .int .i64 y3.1, .bool y3.2, .int .i64 y4.1, .int .i64 y4.2, .sl 1 0 n5 0], .agg [.int .i64 y6.1.1, .int .i64 y6.1.2.1.1, .int .i64 y6.1.2.1.2, .int .i64 y6.1.2.2.1, .int .i64 y6.1.2.2.2, .int .i64 y6.2.1.1, .int .i64 y6.2.1.2, .int .i64 y6.2.2.1.1, .int .i64 y6.2.2.1.2, .int .i64 y6.2.2.2.1.1, .int .i64 y6.2.2.2.1.2, .int .i64 y6.2.2.2.2.1.1, .int .i64 y6.2.2.2.2.1.2, .int .i64 y6.2.2.2.2.2.1, .int .i64 y6.2.2.2.2.2.2], .sl 2 0 n7 0, .int .i64 y8, .int .i64 y9] [.arr (.prod (.int .i64) (.int .i64)) (seg l2 0 n2) 2 true, .arr (.prod .str (.prod (.prod (.int .i64) (.int .i64)) (.prod (.int .i64) (.int .i64)))) (seg l5 0 n5) 5 true, .arr (.prod .str (.prod (.int .i64) (.prod (.prod (.prod (.int .i64) (.int .i64)) (.prod (.int .i64) (.int .i64))) (.prod (.prod (.int .i64) (.int .i64)) (.prod (.int .i64) (.int .i64)))))) (seg l7 0 n7) 10 true]).v = .tup [.agg [.int .i64 p, .int .i64 q, .int .i64 p', .int .i64 q'], .int .i64 c] := ⟨_, _, _, _, _, rfl⟩
  refine funW tabOk (E := [(23, s_szBench), (24, s_szStandardS), (26, s_toBench), (27, s_toReport), (28, s_toStandardS), (25, (pin s_agst2 (.tup [.agg [.int .i64 p, .int .i64 q, .int .i64 p', .int .i64 q'], .int .i64 c]))), (29, (pin s_agst2 (.tup [.agg [.int .i64 p, .int .i64 q, .int .i64 p', .int .i64 q'], .int .i64 c]))), (31, s_eqBench), (32, s_eqStandardS), (30, s_eqSpanC)]) ⟨ok_szBench, ok_szStandardS, ok_toBench, ok_toReport, ok_toStandardS, (ok_pin ok_AgainstS _), (ok_pin ok_AgainstI _), ok_eqBench, ok_eqStandardS, ok_eqSpanC, trivial⟩ [(8, [(2, 0), (12, 0), (12, 1), (12, 2), (12, 3)]), (11, [(0, 1), (10, 0), (10, 1)]), (14, [(0, 1)])] (k := 3) (fn := Tryz.f4) rfl rfl rfl rfl rfl rfl ?_
  (repeat' ((try (conv => whnf)); first | (with_reducible first | refine And.intro ?_ ?_ | refine WX.of ?_) | exact zc | ((with_reducible refine VC.mk ?_); exact zw) | ((with_reducible refine VC.mk ?_); exact ⟨⟨⟨⟨by omega, by omega⟩, ⟨by omega, by omega⟩, fun j a ha => by have := htt j a ha; omega⟩, ⟨by omega, by omega⟩, fun j a ha => by have := htt7 j a ha; omega⟩, hR, rfl⟩) | ((with_reducible refine VC.mk ?_); (refine ⟨?_, ?_, ⟨?_, ?_⟩, ?_, ?_⟩); (omega); (omega); (assumption); (assumption); (omega); (assumption)) | ((with_reducible refine VC.mk ?_); (refine ⟨⟨?_, ?_, ?_⟩, ?_, ?_, ?_⟩); all_goals (try assumption); all_goals omega) | ((with_reducible refine VC.mk ?_); (refine ⟨⟨?_, ?_⟩, ⟨?_, ?_⟩, ?_⟩); (omega); (omega); (omega); (omega); (intro j a ha; have := htt j a ha; omega)) | ((with_reducible refine VC.mk ?_); (refine ⟨⟨?_, ?_⟩, ⟨?_, ?_⟩, ?_, ?_⟩); all_goals first  |  assumption  |  omega) | ((with_reducible refine VC.mk ?_); (refine ⟨?_, ?_, ?_⟩); all_goals first  |  assumption  |  omega) | (with_reducible first | refine splitT ?_ | refine splitF ?_) | ((with_reducible refine splitM.mk (fun hsm => ?_) (fun hsm => ?_)) <;> (try exact zx)) | ((with_reducible refine splitB.mk (fun h => ?_) (fun h => ?_)) <;> (try simp only [zs, ne_eq] at h) <;> (try simp (disch := omega) only [w64] at h) <;> (try exact zx)) | (with_reducible intro hz; (try exact absurd hz (Nat.succ_ne_zero _)))))
  all_goals (simp at h)
end Go.Proofs.YtonnkpclllmkoaaGreat.Eng
