/- Lemmas for the proof, no conditions of their own. -/
import Derived.Test.YtbmejhabgoimeaaQD3
set_option linter.unusedVariables false
set_option linter.unusedSimpArgs false
namespace Go.Proofs.Ytbmejhabgoimeaa.Eng
open Go Go.RowKit
set_option maxRecDepth 100000
def OkO (o : Option FrT) : Prop := ∀ v, o = some v → fOk v.1 v.2 = true
theorem okO_sb (a b : FrT) : OkO (sbO a b) := fun _ h => rO_f h
theorem okO_ad (a b : FrT) : OkO (adO a b) := fun _ h => rO_f h
theorem okO_mu (a b : FrT) : OkO (muO a b) := fun _ h => rO_f h
theorem okO_dv (a b : FrT) : OkO (dvO a b) := fun _ h => dv_f h
theorem okO_bind {α : Type} (o : Option α) (f : α → Option FrT) (h : ∀ x, OkO (f x)) : OkO (o.bind f) := fun v hv => by
  cases o with
  | none => simp at hv
  | some x => exact h x v hv
theorem okO_db (u : FrT) (vp : Int) (w : FrT) : OkO (dbO u vp w) := okO_bind _ _ fun _ => okO_bind _ _ fun _ => okO_ad _ _
theorem okO_bk (g1 g2 w a : FrT) : OkO (bkO g1 g2 w a) := okO_bind _ _ fun _ => okO_bind _ _ fun _ => okO_bind _ _ fun _ => okO_dv _ _
theorem splitO {o : Option FrT} {A B : Prop} (hf : OkO o) (h1 : o = none → A) (h2 : ∀ a b, o = some (a, b) → smF a b → B) : splitB (decide (oC o ≠ 0)) A B := by
  cases o with
  | none => exact ⟨fun _ => h1 rfl, fun e => by simp [oC] at e⟩
  | some v => exact ⟨fun e => by simp [oC] at e, fun _ => h2 v.1 v.2 rfl (smF_ok (hf v rfl))⟩
theorem splitAr {x y : FrT} {A B : Prop} (h1 : arO x y = none → A) (h2 : ∀ a b c d, arO x y = some ((a, b), (c, d)) → smF a b → smF c d → B) : splitB (decide (oS (arO x y) ≠ 0)) A B := by
  cases h : arO x y with
  | none => exact ⟨fun _ => h1 h, fun e => by simp [oS] at e⟩
  | some v => exact ⟨fun e => by simp [oS] at e, fun _ => h2 v.1.1 v.1.2 v.2.1 v.2.2 h (smF_ok (ar_f h).1) (smF_ok (ar_f h).2)⟩
def okS (ok : Bool) (o : Option (FrT × FrT)) : Int := if ok = true then oS o else 1
def s_open : Spec := fun args S => match args, S with
  | [.agg [.int .i64 up, .int .i64 uq, .sl 0 s n x, .int .i64 vp, .bool vb, .int .i64 gp, .int .i64 gq, .sl 1 t m y], .agg [.int .i64 i, .int .i64 wp, .int .i64 wq, .int .i64 sp, .int .i64 sq], .agg [.int .i64 fp, .int .i64 fq], .agg [.int .i64 kp, .int .i64 kq]], [.arr (.prod (.int .i64) (.int .i64)) l 2 wr, .arr (.prod .str (.prod (.prod (.int .i64) (.int .i64)) (.prod (.int .i64) (.int .i64)))) T 5 wT] => ⟨(s + n ≤ l.length ∧ n ≤ 1048576) ∧ (t + m ≤ T.length ∧ m ≤ 1048576) ∧ ∀ (j : Nat) (a : ThT), T[j]? = some a → a.1.length < 9223372036854775808, .tup [.agg [.int .i64 (if okS (bnB up uq vp gp gq (seg l s n) (seg T t m) && shB m (i, (wp, wq), sp, sq) && (fOk fp fq && fOk kp kq)) (opT (up, uq) (seg l s n) vp (gp, gq) (seg T t m) (i, (wp, wq), sp, sq) (fp, fq) (kp, kq)) = 0 then (z2 (opT (up, uq) (seg l s n) vp (gp, gq) (seg T t m) (i, (wp, wq), sp, sq) (fp, fq) (kp, kq))).1.1 else 0), .int .i64 (if okS (bnB up uq vp gp gq (seg l s n) (seg T t m) && shB m (i, (wp, wq), sp, sq) && (fOk fp fq && fOk kp kq)) (opT (up, uq) (seg l s n) vp (gp, gq) (seg T t m) (i, (wp, wq), sp, sq) (fp, fq) (kp, kq)) = 0 then (z2 (opT (up, uq) (seg l s n) vp (gp, gq) (seg T t m) (i, (wp, wq), sp, sq) (fp, fq) (kp, kq))).1.2 else 0), .int .i64 (if okS (bnB up uq vp gp gq (seg l s n) (seg T t m) && shB m (i, (wp, wq), sp, sq) && (fOk fp fq && fOk kp kq)) (opT (up, uq) (seg l s n) vp (gp, gq) (seg T t m) (i, (wp, wq), sp, sq) (fp, fq) (kp, kq)) = 0 then (z2 (opT (up, uq) (seg l s n) vp (gp, gq) (seg T t m) (i, (wp, wq), sp, sq) (fp, fq) (kp, kq))).2.1 else 0), .int .i64 (if okS (bnB up uq vp gp gq (seg l s n) (seg T t m) && shB m (i, (wp, wq), sp, sq) && (fOk fp fq && fOk kp kq)) (opT (up, uq) (seg l s n) vp (gp, gq) (seg T t m) (i, (wp, wq), sp, sq) (fp, fq) (kp, kq)) = 0 then (z2 (opT (up, uq) (seg l s n) vp (gp, gq) (seg T t m) (i, (wp, wq), sp, sq) (fp, fq) (kp, kq))).2.2 else 0)], .int .i64 (okS (bnB up uq vp gp gq (seg l s n) (seg T t m) && shB m (i, (wp, wq), sp, sq) && (fOk fp fq && fOk kp kq)) (opT (up, uq) (seg l s n) vp (gp, gq) (seg T t m) (i, (wp, wq), sp, sq) (fp, fq) (kp, kq)))], [.arr (.prod (.int .i64) (.int .i64)) l 2 wr, .arr (.prod .str (.prod (.prod (.int .i64) (.int .i64)) (.prod (.int .i64) (.int .i64)))) T 5 wT]⟩
  | _, _ => noSpec
def z2S (o : Option (FrT × FrT)) : SV := .agg [.int .i64 (z2 o).1.1, .int .i64 (z2 o).1.2, .int .i64 (z2 o).2.1, .int .i64 (z2 o).2.2]
def s_l07Open : Spec := fun args S => match args, S with
  | [.ptr 0 0 0, .ptr 1 0 0, .agg [.int .i64 fp, .int .i64 fq], .agg [.int .i64 kp, .int .i64 kq]], [.box [.int .i64 up, .int .i64 uq, .sl 2 s n x, .int .i64 vp, .bool vb, .int .i64 gp, .int .i64 gq, .sl 3 t m y] true false, .arr (.prod (.int .i64) (.prod (.prod (.int .i64) (.int .i64)) (.prod (.int .i64) (.int .i64)))) [c] 0 true, .arr (.prod (.int .i64) (.int .i64)) l 2 wr, .arr (.prod .str (.prod (.prod (.int .i64) (.int .i64)) (.prod (.int .i64) (.int .i64)))) T 5 wT] => ⟨((s + n ≤ l.length ∧ n ≤ 1048576) ∧ t + m ≤ T.length ∧ m ≤ 1048576) ∧ bnB up uq vp gp gq (seg l s n) (seg T t m) = true ∧ shB m c = true ∧ smF fp fq ∧ smF kp kq, .tup [z2S (opT (up, uq) (seg l s n) vp (gp, gq) (seg T t m) c (fp, fq) (kp, kq)), .int .i64 (oS (opT (up, uq) (seg l s n) vp (gp, gq) (seg T t m) c (fp, fq) (kp, kq)))], [.box [.int .i64 up, .int .i64 uq, .sl 2 s n x, .int .i64 vp, .bool vb, .int .i64 gp, .int .i64 gq, .sl 3 t m y] true false, .arr (.prod (.int .i64) (.prod (.prod (.int .i64) (.int .i64)) (.prod (.int .i64) (.int .i64)))) [c] 0 true, .arr (.prod (.int .i64) (.int .i64)) l 2 wr, .arr (.prod .str (.prod (.prod (.int .i64) (.int .i64)) (.prod (.int .i64) (.int .i64)))) T 5 wT]⟩
  | _, _ => noSpec
attribute [local irreducible] rO sbO adO muO dvO bkO dbO arO opO in
set_option maxHeartbeats 1600000 in
theorem ok_l07Open : SpecOk Try.prog 69 s_l07Open := by
  intro args S h; unfold s_l07Open at h ⊢; (split at h <;> first | exact False.elim h | skip)
  dsimp only at h ⊢
  rename_i fp fq kp kq up uq s n x vp vb gp gq t m y c l wr T wT
  obtain ⟨⟨h1, h2⟩, hb0, hs0, hf, hk⟩ := h
  have hL := seg_len h1.1
  have hgg := bn_g hb0
  have hel := sc_el hgg.2.2.2.2
  have hO : opT (up, uq) (seg l s n) vp (gp, gq) (seg T t m) c (fp, fq) (kp, kq) = opO (sbO (kp, kq) (fp, fq)) (dbO (up, uq) vp (wrN (seg l s n) n)) (gp, gq) (thAt (seg T t m) c).2.2 c.2.1 := by unfold opT; rw [hL]
  rw [hO]
  refine funW tabOk (E := [(45, s_subZ), (99, s_l02Open), (46, s_num), (81, s_mulZ), (100, s_around), (98, s_l07Back), (101, s_both)]) ⟨ok_l01SubZ, ok_l02Open, ok_l01Whole, ok_l01MulZ, ok_l01Around, ok_l07Back, ok_l01Both, trivial⟩ [(4, [(10, 0)]), (7, [(1, 0), (6, 0), (6, 1)])] (k := 4) (fn := Try.f69) rfl rfl rfl rfl rfl rfl ?_
  (repeat' ((try (conv => whnf)); first | (with_reducible first | refine And.intro ?_ ?_ | refine WX.of ?_) | exact zc | ((with_reducible refine VC.mk ?_); exact zw) | ((with_reducible refine VC.mk ?_); exact ⟨hk, hf⟩) | ((with_reducible refine VC.mk ?_); exact ⟨⟨h1, hel⟩, smF_ok hgg.2.2.1, hgg.2.2.2.1⟩) | ((with_reducible refine VC.mk ?_); exact ⟨smF_1 (by omega), (by assumption)⟩) | ((with_reducible refine VC.mk ?_); exact ⟨(by assumption), (by assumption)⟩) | ((with_reducible refine VC.mk ?_); exact ⟨h2, hb0, hs0, (by assumption)⟩) | ((with_reducible refine splitO (by first  |  exact okO_sb _ _  |  exact okO_db _ _ _  |  exact okO_mu _ _  |  exact okO_bk _ _ _ _) (fun h => ?_) (fun a b h hs => ?_)) <;> (try rw [h])) | ((with_reducible refine splitAr (fun h => ?_) (fun x1 x2 x3 x4 h hs hs' => ?_)) <;> (try rw [h])) | (with_reducible first | refine splitT ?_ | refine splitF ?_) | ((with_reducible refine splitM.mk (fun hsm => ?_) (fun hsm => ?_)) <;> (try exact zx)) | ((with_reducible refine splitB.mk (fun h => ?_) (fun h => ?_)) <;> (try simp only [zs, ne_eq] at h) <;> (try simp (disch := omega) only [w64] at h) <;> (try exact zx)) | (with_reducible intro hz; (try exact absurd hz (Nat.succ_ne_zero _)))))
  all_goals (refine ⟨?_⟩; simp only [zv, Option.getD_some] at *; first | (simp [opO, z2S, z2, oS, oC, *]; done) | skip)
  simp only [z2, Option.getD_some, opO, Option.bind_some, z2S, *] at *
  rcases (bkO (gp, gq) (thAt (seg T t m) c).2.2 c.2.1 (x1, x2)).eq_none_or_eq_some with h5 | ⟨v, h5⟩ <;> rcases (bkO (gp, gq) (thAt (seg T t m) c).2.2 c.2.1 (x3, x4)).eq_none_or_eq_some with h6 | ⟨v', h6⟩ <;> simp [oC, oS, h5, h6]
theorem smF_ad (a b : FrT) : smF (tv (adO a b)).1 (tv (adO a b)).2 := smF_rO _ _
theorem db_sm (u : FrT) (vp : Int) (w : FrT) : smF (dbV u vp w).1 (dbV u vp w).2 := smF_rO _ _
attribute [local irreducible] rO sbO adO muO dvO bkO dbO arO opO dbV bkV bkB in
set_option maxHeartbeats 3200000 in
theorem ok_OpenSpanI : SpecOk Try.prog 34 s_open := by
  intro args S h; unfold s_open at h ⊢; (split at h <;> first | exact False.elim h | skip)
  dsimp only at h ⊢
  rename_i up uq s n x vp vb gp gq t m y i wp wq sp sq fp fq kp kq l wr T wT
  have hq := h
  have hM := seg_len h.2.1.1
  have hL := seg_len h.1.1
  cases hkk0 : (bnB up uq vp gp gq (seg l s n) (seg T t m) && shB m (i, (wp, wq), sp, sq) && (fOk fp fq && fOk kp kq)) with
  | false =>
    refine funW tabOk (E := [(64, s_rdgC)]) ⟨ok_readingsCode, trivial⟩ [(5, [(4, 0), (6, 0), (9, 0), (9, 1), (9, 2)]), (7, [(2, 1), (3, 1), (10, 0), (10, 1), (10, 3), (11, 0), (11, 1), (11, 3), (13, 0), (13, 1), (14, 0), (14, 1)])] (k := 2) (fn := Try.f34) rfl rfl rfl rfl rfl rfl ?_
    (repeat' ((try (conv => whnf)); first | (with_reducible first | refine And.intro ?_ ?_ | refine WX.of ?_) | exact zc | ((with_reducible refine VC.mk ?_); exact zw) | ((with_reducible refine VC.mk ?_); exact hq) | (with_reducible first | refine splitT ?_ | refine splitF ?_) | ((with_reducible refine splitM.mk (fun hsm => ?_) (fun hsm => ?_)) <;> (try exact zx)) | ((with_reducible refine splitB.mk (fun h => ?_) (fun h => ?_)) <;> (try simp only [zs, ne_eq] at h) <;> (try simp (disch := omega) only [w64] at h) <;> (try exact zx)) | (with_reducible intro hz; (try exact absurd hz (Nat.succ_ne_zero _)))))
    · rw [hkk0]; exact ⟨by simp [okS]⟩
    all_goals (rw [hkk0] at h; simp at h)
  | true =>
    have hk2 := hkk0
    rw [Bool.and_eq_true, Bool.and_eq_true, Bool.and_eq_true] at hk2
    obtain ⟨⟨hb, hs0⟩, hf, hkk⟩ := hk2
    have hs := sh_at hs0
    have hgg := bn_g hb
    have hel := sc_el hgg.2.2.2.2
    have hd := smF_sb (kp, kq) (fp, fq)
    have hsf := bn_sf hb (k := i.toNat)
    have hw := wrN_sm hel (i := n) (by omega)
    have hdb := db_sm (up, uq) vp (wrN (seg l s n) n)
    have hmu := smF_mu (2, 1) (dbV (up, uq) vp (wrN (seg l s n) n))
    have hlo := smF_sb (tv (sbO (kp, kq) (fp, fq))) (tv (muO (2, 1) (dbV (up, uq) vp (wrN (seg l s n) n))))
    have hhi := smF_ad (tv (sbO (kp, kq) (fp, fq))) (tv (muO (2, 1) (dbV (up, uq) vp (wrN (seg l s n) n))))
    refine funW tabOk (E := [(64, s_rdgC), (26, s_num), (66, s_doubt), (54, s_mulO), (25, s_subO), (65, s_cold), (53, s_addO), (67, s_span)]) ⟨ok_readingsCode, ok_num, ok_doubt, ok_mulO, ok_subO, ok_cold, ok_addO, ok_span, trivial⟩ [(5, [(4, 0), (6, 0), (9, 0), (9, 1), (9, 2)]), (7, [(2, 1), (3, 1), (10, 0), (10, 1), (10, 3), (11, 0), (11, 1), (11, 3), (13, 0), (13, 1), (14, 0), (14, 1)])] (k := 2) (fn := Try.f34) rfl rfl rfl rfl rfl rfl ?_
    (repeat' ((try (conv => whnf)); first | (with_reducible first | refine And.intro ?_ ?_ | refine WX.of ?_) | exact zc | ((with_reducible refine VC.mk ?_); exact zw) | ((with_reducible refine VC.mk ?_); exact hq) | ((with_reducible refine VC.mk ?_); exact ⟨rfl, smF_ok hkk, smF_ok hf⟩) | ((with_reducible refine VC.mk ?_); exact ⟨rfl, ⟨hq.1, hel⟩, smF_ok hgg.2.2.1, hgg.2.2.2.1⟩) | ((with_reducible refine VC.mk ?_); exact ⟨rfl, smF_1 (by omega), hdb⟩) | ((with_reducible refine VC.mk ?_); exact ⟨rfl, hd, hmu⟩) | ((with_reducible refine VC.mk ?_); exact ⟨rfl, hq.2.1, hs.1, smF_ok hgg.1, smF_ok hs.2.1, hlo, hsf⟩) | ((with_reducible refine VC.mk ?_); exact ⟨rfl, hq.2.1, hs.1, smF_ok hgg.1, smF_ok hs.2.1, hhi, hsf⟩) | (with_reducible first | refine splitT ?_ | refine splitF ?_) | ((with_reducible refine splitM.mk (fun hsm => ?_) (fun hsm => ?_)) <;> (try exact zx)) | ((with_reducible refine splitB.mk (fun h => ?_) (fun h => ?_)) <;> (try simp only [zs, ne_eq] at h) <;> (try simp (disch := omega) only [w64] at h) <;> (try exact zx)) | (with_reducible intro hz; (try exact absurd hz (Nat.succ_ne_zero _)))))
    · rw [hkk0] at h; simp at h
    · have ho := op_e (sbO (kp, kq) (fp, fq)) (dbO (up, uq) vp (wrN (seg l s n) n)) (tv (sbO (kp, kq) (fp, fq))) (dbV (up, uq) vp (wrN (seg l s n) n)) (gp, gq) (thAt (seg T t m) (i, (wp, wq), sp, sq)).2.2 (wp, wq) (fun v hv => by rw [hv]; rfl) (db_e _ _ _).2
      have hO : opT (up, uq) (seg l s n) vp (gp, gq) (seg T t m) (i, (wp, wq), sp, sq) (fp, fq) (kp, kq) = opO (sbO (kp, kq) (fp, fq)) (dbO (up, uq) vp (wrN (seg l s n) n)) (gp, gq) (thAt (seg T t m) (i, (wp, wq), sp, sq)).2.2 (wp, wq) := by unfold opT; rw [hL]
      refine ⟨?_⟩
      rw [hO]
      dsimp only
      simp only [pr_eta, Bool.false_or]
      rw [ho.1]
      have h2 := ho.2
      rcases (opO (sbO (kp, kq) (fp, fq)) (dbO (up, uq) vp (wrN (seg l s n) n)) (gp, gq) (thAt (seg T t m) (i, (wp, wq), sp, sq)).2.2 (wp, wq)).eq_none_or_eq_some with e | ⟨v, e⟩
      · simp [okS, oS, e]
      · have h3 := h2 v e
        subst h3
        simp [okS, oS, z2, opV, e]
end Go.Proofs.Ytbmejhabgoimeaa.Eng
set_option linter.unusedVariables false
set_option linter.unusedSimpArgs false
namespace Go.Proofs.Ytbmejhabgoimeaa.Eng
open Go Go.RowKit
set_option maxRecDepth 100000
/-- A mark of a scale. -/
def mkO (u : FrT) (k : Int) (e : FrT) : Option FrT := (muO (k, 1) u).bind fun a => adO a e
def mkV (u : FrT) (k : Int) (e : FrT) : FrT := tv (adO (tv (muO (k, 1) u)) e)
def elT (E : List FrT) (k : Nat) : FrT := (E[k]?).getD (0, 0)
theorem elT_e {E : List FrT} {k : Nat} {a : FrT} (h : E[k]? = some a) : elT E k = a := by unfold elT; rw [h]; rfl
theorem mk_e {u : FrT} {k : Int} {e v : FrT} (h : mkO u k e = some v) : mkV u k e = v := by
  unfold mkO at h
  unfold mkV
  cases h1 : muO (k, 1) u with
  | none => rw [h1] at h; simp at h
  | some a =>
    rw [h1] at h
    simp only [Option.bind_some] at h
    show tv (adO a e) = v
    rw [h]; rfl
theorem mkO_ok {up uq : Int} {k : Nat} {e : FrT} : mkOk up uq k e = (mkO (up, uq) k e).isSome := by
  unfold mkOk mkO muO adO
  have h1 := tv_r ((k : Int) * up) (1 * uq)
  cases h : rO ((k : Int) * up) (1 * uq) with
  | none => rw [h] at h1; rw [h1.2.2]; simp
  | some a =>
    rw [h] at h1
    have h2 := tv_r (a.1 * e.2 + e.1 * a.2) (a.2 * e.2)
    rw [h1.2.2, h1.1, h1.2.1]
    simp only [tv, Option.getD_some, Option.isSome_some, Bool.true_and, Option.bind_some]
    exact h2.2.2
theorem sc_mk {up uq : Int} {E : List FrT} (h : scB up uq E = true) {k : Nat} {e : FrT} (he : E[k]? = some e) : ∃ v, mkO (up, uq) k e = some v := by
  unfold scB at h
  simp only [Bool.and_eq_true] at h
  have := allI_at h.2 he
  unfold elB at this
  simp only [Bool.and_eq_true] at this
  rw [mkO_ok] at this
  exact Option.isSome_iff_exists.1 this.2
theorem mkV_sm (u : FrT) (k : Int) (e : FrT) : smF (mkV u k e).1 (mkV u k e).2 := smF_rO _ _
/-- The least of some, with its place. -/
def amin (d : Nat → FrT) : Nat → Int × FrT
  | 0 => (-1, (0, 1))
  | i + 1 => if (amin d i).1 < 0 ∨ cmpF (d i).1 (d i).2 (amin d i).2.1 (amin d i).2.2 < 0 then ((i : Int), d i) else amin d i
theorem amin_b {d : Nat → FrT} (hd : ∀ i, smF (d i).1 (d i).2) : ∀ (i : Nat), (-1 ≤ (amin d i).1 ∧ (amin d i).1 ≤ (i : Int) - 1 ∧ (0 < i → 0 ≤ (amin d i).1)) ∧ smF (amin d i).2.1 (amin d i).2.2
  | 0 => ⟨⟨by simp [amin], by simp [amin], fun h => absurd h (by omega)⟩, smF_1 (n := 0) (by omega)⟩
  | i + 1 => by
    have h := amin_b hd i
    unfold amin
    split
    · exact ⟨⟨by dsimp only; omega, by dsimp only; push_cast; omega, fun _ => by dsimp only; omega⟩, hd i⟩
    · rename_i hn
      refine ⟨⟨h.1.1, by have := h.1.2.1; push_cast; omega, fun _ => by have := h.1.1; omega⟩, h.2⟩
theorem amin_y {d : Nat → FrT} {i : Nat} (h : (amin d i).1 < 0 ∨ cmpF (d i).1 (d i).2 (amin d i).2.1 (amin d i).2.2 < 0) : amin d (i + 1) = ((i : Int), d i) := by rw [amin, if_pos h]
theorem amin_n {d : Nat → FrT} {i : Nat} (h : ¬ ((amin d i).1 < 0 ∨ cmpF (d i).1 (d i).2 (amin d i).2.1 (amin d i).2.2 < 0)) : amin d (i + 1) = amin d i := by rw [amin, if_neg h]
def anyN (f : Nat → Bool) : Nat → Bool
  | 0 => false
  | i + 1 => anyN f i || f i
theorem anyN_at {f : Nat → Bool} {i : Nat} (hi : f i = true) : ∀ {n : Nat}, i < n → anyN f n = true
  | n + 1, hn => by
    unfold anyN
    by_cases e : i = n
    · subst e; rw [hi, Bool.or_true]
    · rw [anyN_at hi (show i < n by omega), Bool.true_or]
/-- How far a place is from a mark. -/
def absF (a : FrT) : FrT := ((a.1.natAbs : Int), a.2)
def nrD (u : FrT) (E : List FrT) (x : FrT) (k : Nat) : FrT := absF (tv (sbO x (mkV u k (elT E k))))
def nrX (u : FrT) (E : List FrT) (x : FrT) (k : Nat) : Bool := !(sbO x (mkV u k (elT E k))).isSome
theorem nrD_sm (u : FrT) (E : List FrT) (x : FrT) (k : Nat) : smF (nrD u E x k).1 (nrD u E x k).2 := smF_abs (smF_sb _ _)
def s_markI : Spec := fun args S => match args, S with
  | [.agg [.int .i64 up, .int .i64 uq, .sl 0 s n x], .int .i64 k], [.arr (.prod (.int .i64) (.int .i64)) l 2 wr] => ⟨(s + n ≤ l.length ∧ n ≤ 60) ∧ (0 ≤ k ∧ k ≤ (n : Int) - 1) ∧ smF up uq ∧ ∀ (j : Nat) (a : FrT), (seg l s n)[j]? = some a → smF a.1 a.2, .agg [.int .i64 (mkV (up, uq) k (elT (seg l s n) k.toNat)).1, .int .i64 (mkV (up, uq) k (elT (seg l s n) k.toNat)).2], [.arr (.prod (.int .i64) (.int .i64)) l 2 wr]⟩
  | _, _ => noSpec
theorem ok_markI : SpecOk Try.prog 93 s_markI := by
  intro args S h; unfold s_markI at h ⊢; (split at h <;> first | exact False.elim h | skip)
  dsimp only at h ⊢
  rename_i up uq s n x k l wr
  obtain ⟨⟨h1, h2⟩, hk, hu, hE⟩ := h
  have hL := seg_len h1
  obtain ⟨⟨p, q⟩, ha⟩ := get_some (l := seg l s n) (i := k.toNat) (by omega)
  rw [elT_e ha]
  have hs := hE _ _ ha
  have hm := smF_mu (k, 1) (up, uq)
  refine funW tabOk (E := [(26, s_num), (54, s_mulO), (53, s_addO)]) ⟨ok_num, ok_mulO, ok_addO, trivial⟩ [(2, [(5, 0), (8, 0), (8, 1), (11, 0), (11, 1)])] (k := 1) (fn := Try.f93) rfl rfl rfl rfl rfl rfl ?_
  (repeat' ((try (conv => whnf)); first | (with_reducible first | refine And.intro ?_ ?_ | refine WX.of ?_) | exact zc | ((with_reducible refine VC.mk ?_); exact zw) | ((with_reducible refine VC.mk ?_); exact ⟨rfl, smF_1 (by omega), hu⟩) | ((with_reducible refine VC.mk ?_); exact ⟨rfl, hm, hs⟩) | ((with_reducible refine VC.mk ?_); exact hk) | with_reducible refine atL_p (seg_get ha).1 ?_ | (with_reducible first | refine splitT ?_ | refine splitF ?_) | ((with_reducible refine splitM.mk (fun hsm => ?_) (fun hsm => ?_)) <;> (try exact zx)) | ((with_reducible refine splitB.mk (fun h => ?_) (fun h => ?_)) <;> (try simp only [zs, ne_eq] at h) <;> (try simp (disch := omega) only [w64] at h) <;> (try exact zx)) | (with_reducible intro hz; (try exact absurd hz (Nat.succ_ne_zero _)))))
/-- A line of a vernier. -/
def stp (vp : Int) (vb : Bool) : Int := if vb = true then vp + 1 else vp - 1
def lnO' (u : FrT) (vp : Int) (vb : Bool) (x : FrT) (i : Int) : Option FrT := (muO (i * stp vp vb, 1) u).bind fun a => (dvO a (vp, 1)).bind fun b => adO x b
def lnV (u : FrT) (vp : Int) (vb : Bool) (x : FrT) (i : Int) : FrT := tv (adO x (tv (dvO (tv (muO (i * stp vp vb, 1) u)) (vp, 1))))
def lnX (u : FrT) (vp : Int) (vb : Bool) (x : FrT) (i : Int) : Bool := !(muO (i * stp vp vb, 1) u).isSome || !(dvO (tv (muO (i * stp vp vb, 1) u)) (vp, 1)).isSome || !(adO x (tv (dvO (tv (muO (i * stp vp vb, 1) u)) (vp, 1)))).isSome
theorem ln_e (u : FrT) (vp : Int) (vb : Bool) (x : FrT) (i : Int) : lnX u vp vb x i = !(lnO' u vp vb x i).isSome ∧ ∀ v, lnO' u vp vb x i = some v → lnV u vp vb x i = v := by
  unfold lnX lnV lnO'
  cases h1 : muO (i * stp vp vb, 1) u with
  | none => simp
  | some a =>
    simp only [Option.bind_some, tv, Option.getD_some, Option.isSome_some, Bool.not_true, Bool.false_or]
    cases h2 : dvO a (vp, 1) with
    | none => simp
    | some b =>
      simp only [Option.bind_some, Option.getD_some, Option.isSome_some, Bool.not_true, Bool.false_or, true_and]
      intro v h3; rw [h3]; rfl
theorem lnV_sm (u : FrT) (vp : Int) (vb : Bool) (x : FrT) (i : Int) : smF (lnV u vp vb x i).1 (lnV u vp vb x i).2 := smF_rO _ _
/-- What may fail with a code. -/
abbrev EX (α : Type) : Type := Except Int α
def ofO {α : Type} (o : Option α) : EX α := match o with | some v => .ok v | none => .error 3
def eC {α : Type} (e : EX α) : Int := match e with | .ok _ => 0 | .error c => c
def eV {α : Type} (d : α) (e : EX α) : α := match e with | .ok v => v | .error _ => d
def ftD (u : FrT) (E : List FrT) (vp : Int) (vb : Bool) (x : FrT) (i : Nat) : FrT := (amin (nrD u E (lnV u vp vb x i)) E.length).2
def ftX (u : FrT) (E : List FrT) (vp : Int) (vb : Bool) (x : FrT) (i : Nat) : Bool := lnX u vp vb x i || anyN (nrX u E (lnV u vp vb x i)) E.length
theorem ftD_sm (u : FrT) (E : List FrT) (vp : Int) (vb : Bool) (x : FrT) (i : Nat) : smF (ftD u E vp vb x i).1 (ftD u E vp vb x i).2 := (amin_b (nrD_sm u E _) _).2
def fitE (u : FrT) (E : List FrT) (vp : Int) (vb : Bool) (x : FrT) : EX Int :=
  if cmpF x.1 x.2 (mkV u 0 (elT E 0)).1 (mkV u 0 (elT E 0)).2 < 0 then .error 2 else
  (ofO (lnO' u vp vb x (vp - 1))).bind fun e =>
  if cmpF e.1 e.2 (mkV u ((E.length : Int) - 1) (elT E (E.length - 1))).1 (mkV u ((E.length : Int) - 1) (elT E (E.length - 1))).2 > 0 then .error 2 else
  if anyN (ftX u E vp vb x) vp.toNat = true then .error 3 else .ok (amin (ftD u E vp vb x) vp.toNat).1
def nrN (r u : FrT) : Int := (2 * (r.1 * u.2) + r.2 * u.1) / (2 * (r.2 * u.1))
def fln (vp : Int) (vb : Bool) (f : Int) : Int := if vb = true ∧ f ≠ 0 then vp - f else f
def rvO (u : FrT) (vp : Int) (vb : Bool) (x : FrT) (f : Int) : Option FrT := (muO (tv (dvO (fln vp vb f, 1) (vp, 1))) u).bind fun p => (sbO x p).bind fun r => if -1000000000 ≤ nrN r u ∧ nrN r u ≤ 1000000000 then (muO (nrN r u, 1) u).bind fun w => adO p w else none
def rvP (u : FrT) (vp : Int) (vb : Bool) (f : Int) : FrT := tv (muO (tv (dvO (fln vp vb f, 1) (vp, 1))) u)
def rvN (u : FrT) (vp : Int) (vb : Bool) (x : FrT) (f : Int) : Int := nrN (tv (sbO x (rvP u vp vb f))) u
def rvV (u : FrT) (vp : Int) (vb : Bool) (x : FrT) (f : Int) : FrT := tv (adO (rvP u vp vb f) (tv (muO (rvN u vp vb x f, 1) u)))
def rvX (u : FrT) (vp : Int) (vb : Bool) (x : FrT) (f : Int) : Bool := !(muO (tv (dvO (fln vp vb f, 1) (vp, 1))) u).isSome || !(sbO x (rvP u vp vb f)).isSome || !(muO (rvN u vp vb x f, 1) u).isSome || !(adO (rvP u vp vb f) (tv (muO (rvN u vp vb x f, 1) u))).isSome
theorem rv_e (u : FrT) (vp : Int) (vb : Bool) (x : FrT) (f : Int) : (!decide (-1000000000 ≤ rvN u vp vb x f ∧ rvN u vp vb x f ≤ 1000000000) || rvX u vp vb x f) = !(rvO u vp vb x f).isSome ∧ ∀ v, rvO u vp vb x f = some v → rvV u vp vb x f = v := by
  unfold rvX rvV rvO rvN
  unfold rvP
  cases h1 : muO (tv (dvO (fln vp vb f, 1) (vp, 1))) u with
  | none => simp
  | some p =>
    simp only [Option.bind_some, show tv (some p) = p from rfl]
    cases h2 : sbO x p with
    | none => simp
    | some r =>
      simp only [Option.bind_some, show tv (some r) = r from rfl]
      by_cases h3 : -1000000000 ≤ nrN r u ∧ nrN r u ≤ 1000000000
      · rw [if_pos h3, decide_eq_true h3]
        cases h4 : muO (nrN r u, 1) u with
        | none => simp
        | some w =>
          simp only [Option.bind_some, show tv (some w) = w from rfl, Option.isSome_some, Bool.not_true, Bool.false_or, true_and]
          intro v h5; rw [h5]; rfl
      · rw [if_neg h3, decide_eq_false h3]; simp
def readE (u : FrT) (E : List FrT) (vp : Int) (vb : Bool) (x : FrT) : EX FrT := (fitE u E vp vb x).bind fun f => ofO (rvO u vp vb x f)
/-- A scale that is warm. -/
def wmE (f : FrT) (E : List FrT) : List FrT := E.map fun e => tv (muO e f)
def wmX (f : FrT) (E : List FrT) : Bool := E.any fun e => !(muO e f).isSome
def wmO (u : FrT) (E : List FrT) (y : FrT) : Option (FrT × List FrT) := (adO (1, 1) y).bind fun f => (muO u f).bind fun w => if wmX f E = false ∧ scB w.1 w.2 (wmE f E) = true then some (w, wmE f E) else none
def warmE (u : FrT) (E : List FrT) (y : FrT) : EX (FrT × List FrT) := if 10 * (y.1.natAbs : Int) > y.2 then .error 2 else ofO (wmO u E y)
/-- The readings of both ends. -/
def endsE (u : FrT) (E : List FrT) (vp : Int) (vb : Bool) (g : FrT) (T : List ThT) (c : ShT) : EX (FrT × FrT) :=
  (ofO (enT T c)).bind fun second => (ofO (stO g c.2.1)).bind fun st => (ofO (sbO st (1, 1))).bind fun y => (warmE u E y).bind fun w =>
  (readE w.1 w.2 vp vb c.2.2).bind fun a => (ofO (dvO a st)).bind fun d1 => (readE w.1 w.2 vp vb second).bind fun b => (ofO (dvO b st)).bind fun d2 => .ok (d1, d2)
theorem wm_e (u : FrT) (E : List FrT) (y : FrT) : ((!(adO (1, 1) y).isSome || !(muO u (tv (adO (1, 1) y))).isSome || wmX (tv (adO (1, 1) y)) E) || !scB (tv (muO u (tv (adO (1, 1) y)))).1 (tv (muO u (tv (adO (1, 1) y)))).2 (wmE (tv (adO (1, 1) y)) E)) = !(wmO u E y).isSome ∧ ∀ v, wmO u E y = some v → (tv (muO u (tv (adO (1, 1) y))), wmE (tv (adO (1, 1) y)) E) = v := by
  unfold wmO
  cases h1 : adO (1, 1) y with
  | none => simp
  | some f =>
    simp only [Option.bind_some, show tv (some f) = f from rfl]
    cases h2 : muO u f with
    | none => simp
    | some w =>
      simp only [Option.bind_some, show tv (some w) = w from rfl]
      by_cases h3 : wmX f E = false ∧ scB w.1 w.2 (wmE f E) = true
      · rw [if_pos h3, h3.1, h3.2]; simp
      · rw [if_neg h3]
        refine ⟨?_, fun v h => by simp at h⟩
        cases h4 : wmX f E
        · cases h5 : scB w.1 w.2 (wmE f E)
          · simp
          · exact absurd ⟨h4, h5⟩ h3
        · simp
theorem amin_1 {d : Nat → FrT} : amin d 1 = (0, d 0) := by rw [amin, if_pos (.inl (by simp [amin]))]; rfl
def amin0 (d : Nat → FrT) (k : Nat) : Int × FrT := if k = 0 then (0, (0, 0)) else amin d k
theorem amin0_s {d : Nat → FrT} {k : Nat} : amin0 d (k + 1) = amin d (k + 1) := by unfold amin0; rw [if_neg (by omega)]
theorem stp_b {vp i : Int} (vb : Bool) (hv : 2 ≤ vp ∧ vp ≤ 40) (hi : 0 ≤ i ∧ i ≤ 40) : 0 ≤ i * stp vp vb ∧ i * stp vp vb ≤ 1640 := by
  have h : 0 ≤ stp vp vb ∧ stp vp vb ≤ 41 := by cases vb <;> simp [stp] <;> omega
  exact ⟨Int.mul_nonneg hi.1 h.1, Int.le_trans (Int.mul_le_mul hi.2 h.2 h.1 (by omega)) (by omega)⟩
def s_nearI : Spec := fun args S => match args, S with
  | [.ptr b 0 0, .agg [.int .i64 up, .int .i64 uq, .sl 1 s n x], .agg [.int .i64 xp, .int .i64 xq]], [.arr .bool [bad] 0 true, .arr (.prod (.int .i64) (.int .i64)) l 2 wr] => ⟨b = 0 ∧ (s + n ≤ l.length ∧ n ≤ 60) ∧ smF up uq ∧ (∀ (j : Nat) (a : FrT), (seg l s n)[j]? = some a → smF a.1 a.2) ∧ smF xp xq, .tup [.int .i64 (amin (nrD (up, uq) (seg l s n) (xp, xq)) n).1, .agg [.int .i64 (amin (nrD (up, uq) (seg l s n) (xp, xq)) n).2.1, .int .i64 (amin (nrD (up, uq) (seg l s n) (xp, xq)) n).2.2]], [.arr .bool [bad || anyN (nrX (up, uq) (seg l s n) (xp, xq)) n] 0 true, .arr (.prod (.int .i64) (.int .i64)) l 2 wr]⟩
  | _, _ => noSpec
attribute [local irreducible] sbO muO adO mkV in
set_option maxHeartbeats 1600000 in
theorem ok_nearI : SpecOk Try.prog 95 s_nearI := by
  intro args S h; unfold s_nearI at h ⊢; (split at h <;> first | exact False.elim h | skip)
  dsimp only at h ⊢
  rename_i b up uq s n x xp xq bad l wr
  obtain ⟨rfl, ⟨h1, h2⟩, hu, hE, hx⟩ := h
  have hL := seg_len h1
  refine funW tabOk (E := [(61, s_zero), (93, s_markI), (25, s_subO), (57, s_size), (38, s_cmp)]) ⟨ok_zero, ok_markI, ok_subO, ok_size, ok_compare, trivial⟩ [(5, [(1, 1), (7, 0), (7, 1), (7, 2)])] (k := 2) (fn := Try.f95) rfl rfl rfl rfl rfl rfl ?_
  (repeat' ((try (conv => whnf)); first | (with_reducible first | refine And.intro ?_ ?_ | refine WX.of ?_) | exact zc | ((with_reducible refine VC.mk ?_); exact zw) | (with_reducible first | refine splitT ?_ | refine splitF ?_) | ((with_reducible refine splitM.mk (fun hsm => ?_) (fun hsm => ?_)) <;> (try exact zx)) | ((with_reducible refine splitB.mk (fun h => ?_) (fun h => ?_)) <;> (try simp only [zs, ne_eq] at h) <;> (try simp (disch := omega) only [w64] at h) <;> (try exact zx)) | (with_reducible intro hz; (try exact absurd hz (Nat.succ_ne_zero _)))))
  refine loopW tabOk (E := [(61, s_zero), (93, s_markI), (25, s_subO), (57, s_size), (38, s_cmp)]) ⟨ok_zero, ok_markI, ok_subO, ok_size, ok_compare, trivial⟩ [(5, [(1, 1), (7, 0), (7, 1), (7, 2)])] (σ := Nat) (fun i => [(0, .ptr 0 0 0), (4, .ptr 2 0 0), (5, .ptr 3 0 0), (7, .ptr 4 0 0), (8, .int .i64 (amin (nrD (up, uq) (seg l s n) (xp, xq)) i).1), (9, .ptr 5 0 0), (15, .int .i64 n), (16, .int .i64 i)]) (fun i => [.arr .bool [bad || anyN (nrX (up, uq) (seg l s n) (xp, xq)) i] 0 true, .arr (.prod (.int .i64) (.int .i64)) l 2 wr, .box [.int .i64 up, .int .i64 uq, .sl 1 s n x] true false, .arr (.prod (.int .i64) (.int .i64)) [(xp, xq)] 0 true, .arr (.prod (.int .i64) (.int .i64)) [(0, 0)] 0 true, .arr (.prod (.int .i64) (.int .i64)) [(amin (nrD (up, uq) (seg l s n) (xp, xq)) i).2] 0 true]) (fun i => n - i) (fun i => i ≤ n) 0 (Nat.zero_le _) ?_ ?_
  · (repeat' ((try (conv => whnf)); first | (with_reducible first | refine And.intro ?_ ?_ | refine WX.of ?_) | exact zc | ((with_reducible refine VC.mk ?_); exact zw) | (with_reducible first | refine splitT ?_ | refine splitF ?_) | ((with_reducible refine splitM.mk (fun hsm => ?_) (fun hsm => ?_)) <;> (try exact zx)) | ((with_reducible refine splitB.mk (fun h => ?_) (fun h => ?_)) <;> (try simp only [zs, ne_eq] at h) <;> (try simp (disch := omega) only [w64] at h) <;> (try exact zx)) | (with_reducible intro hz; (try exact absurd hz (Nat.succ_ne_zero _)))))
    all_goals exact ⟨by simp [anyN]⟩
  · intro i hi
    have hb := amin_b (nrD_sm (up, uq) (seg l s n) (xp, xq)) i
    have hd := nrD_sm (up, uq) (seg l s n) (xp, xq) i
    have hmk := mkV_sm (up, uq) i (elT (seg l s n) i)
    have hsb := smF_sb (xp, xq) (mkV (up, uq) i (elT (seg l s n) i))
    by_cases hlt : i < n
    · (repeat' ((try (conv => whnf)); first | (with_reducible first | refine And.intro ?_ ?_ | refine WX.of ?_) | exact zc | ((with_reducible refine VC.mk ?_); exact zw) | ((with_reducible refine VC.mk ?_); exact ⟨⟨h1, h2⟩, ⟨by omega, by omega⟩, hu, hE⟩) | ((with_reducible refine VC.mk ?_); exact ⟨rfl, hx, hmk⟩) | ((with_reducible refine VC.mk ?_); exact hsb) | ((with_reducible refine VC.mk ?_); exact ⟨hd, hb.2⟩) | (with_reducible first | refine splitT ?_ | refine splitF ?_) | ((with_reducible refine splitM.mk (fun hsm => ?_) (fun hsm => ?_)) <;> (try exact zx)) | ((with_reducible refine splitB.mk (fun h => ?_) (fun h => ?_)) <;> (try simp only [zs, ne_eq] at h) <;> (try simp (disch := omega) only [w64] at h) <;> (try exact zx)) | (with_reducible intro hz; (try exact absurd hz (Nat.succ_ne_zero _)))))
      · refine ⟨i + 1, by omega, hlt, ?_⟩
        rw [amin_y (.inl h)]
        (repeat' ((try (conv => whnf)); first | (with_reducible first | refine And.intro ?_ ?_ | refine WX.of ?_) | exact zc | ((with_reducible refine VC.mk ?_); exact zw) | (with_reducible first | refine splitT ?_ | refine splitF ?_) | ((with_reducible refine splitM.mk (fun hsm => ?_) (fun hsm => ?_)) <;> (try exact zx)) | ((with_reducible refine splitB.mk (fun h => ?_) (fun h => ?_)) <;> (try simp only [zs, ne_eq] at h) <;> (try simp (disch := omega) only [w64] at h) <;> (try exact zx)) | (with_reducible intro hz; (try exact absurd hz (Nat.succ_ne_zero _)))))
        exact ⟨congrArg (fun z => [z]) (Bool.or_assoc ..)⟩
      · refine ⟨i + 1, by omega, hlt, ?_⟩
        rw [amin_y (.inr h)]
        (repeat' ((try (conv => whnf)); first | (with_reducible first | refine And.intro ?_ ?_ | refine WX.of ?_) | exact zc | ((with_reducible refine VC.mk ?_); exact zw) | (with_reducible first | refine splitT ?_ | refine splitF ?_) | ((with_reducible refine splitM.mk (fun hsm => ?_) (fun hsm => ?_)) <;> (try exact zx)) | ((with_reducible refine splitB.mk (fun h => ?_) (fun h => ?_)) <;> (try simp only [zs, ne_eq] at h) <;> (try simp (disch := omega) only [w64] at h) <;> (try exact zx)) | (with_reducible intro hz; (try exact absurd hz (Nat.succ_ne_zero _)))))
        exact ⟨congrArg (fun z => [z]) (Bool.or_assoc ..)⟩
      · rename_i h0
        refine ⟨i + 1, by omega, hlt, ?_⟩
        have hc : ¬ cmpF (nrD (up, uq) (seg l s n) (xp, xq) i).1 (nrD (up, uq) (seg l s n) (xp, xq) i).2 (amin (nrD (up, uq) (seg l s n) (xp, xq)) i).2.1 (amin (nrD (up, uq) (seg l s n) (xp, xq)) i).2.2 < 0 := by
          have h2 : ¬ _ := Int.not_lt.2 h
          exact h2
        rw [amin_n (fun e => e.elim (fun e => absurd e (by omega)) hc)]
        (repeat' ((try (conv => whnf)); first | (with_reducible first | refine And.intro ?_ ?_ | refine WX.of ?_) | exact zc | ((with_reducible refine VC.mk ?_); exact zw) | (with_reducible first | refine splitT ?_ | refine splitF ?_) | ((with_reducible refine splitM.mk (fun hsm => ?_) (fun hsm => ?_)) <;> (try exact zx)) | ((with_reducible refine splitB.mk (fun h => ?_) (fun h => ?_)) <;> (try simp only [zs, ne_eq] at h) <;> (try simp (disch := omega) only [w64] at h) <;> (try exact zx)) | (with_reducible intro hz; (try exact absurd hz (Nat.succ_ne_zero _)))))
        exact ⟨congrArg (fun z => [z]) (Bool.or_assoc ..)⟩
    · obtain rfl : i = n := by omega
      (repeat' ((try (conv => whnf)); first | (with_reducible first | refine And.intro ?_ ?_ | refine WX.of ?_) | exact zc | ((with_reducible refine VC.mk ?_); exact zw) | (with_reducible first | refine splitT ?_ | refine splitF ?_) | ((with_reducible refine splitM.mk (fun hsm => ?_) (fun hsm => ?_)) <;> (try exact zx)) | ((with_reducible refine splitB.mk (fun h => ?_) (fun h => ?_)) <;> (try simp only [zs, ne_eq] at h) <;> (try simp (disch := omega) only [w64] at h) <;> (try exact zx)) | (with_reducible intro hz; (try exact absurd hz (Nat.succ_ne_zero _)))))
def s_lineI : Spec := fun args S => match args, S with
  | [.ptr b 0 0, .agg [.int .i64 up, .int .i64 uq, .sl 1 s n x], .agg [.int .i64 vp, .bool vb], .agg [.int .i64 xp, .int .i64 xq], .int .i64 i], [.arr .bool [bad] 0 true, .arr (.prod (.int .i64) (.int .i64)) l 2 wr] => ⟨b = 0 ∧ smF up uq ∧ (2 ≤ vp ∧ vp ≤ 40) ∧ (0 ≤ i ∧ i ≤ 40) ∧ smF xp xq, .agg [.int .i64 (lnV (up, uq) vp vb (xp, xq) i).1, .int .i64 (lnV (up, uq) vp vb (xp, xq) i).2], [.arr .bool [bad || lnX (up, uq) vp vb (xp, xq) i] 0 true, .arr (.prod (.int .i64) (.int .i64)) l 2 wr]⟩
  | _, _ => noSpec
attribute [local irreducible] sbO muO adO dvO in
theorem ok_lineI : SpecOk Try.prog 94 s_lineI := by
  intro args S h; unfold s_lineI at h ⊢; (split at h <;> first | exact False.elim h | skip)
  dsimp only at h ⊢
  rename_i b up uq s n x vp vb xp xq i bad l wr
  obtain ⟨rfl, hu, hv, hi, hx⟩ := h
  have hs := stp_b vb hv hi
  have hm := smF_mu (i * stp vp vb, 1) (up, uq)
  have hd := smF_dv (tv (muO (i * stp vp vb, 1) (up, uq))) (vp, 1)
  cases vb
  all_goals
    unfold lnV lnX
    simp only [stp, if_true, if_false, Bool.false_eq_true] at hs hm hd ⊢
    refine funW tabOk (E := [(26, s_num), (54, s_mulO), (29, s_divO), (53, s_addO)]) ⟨ok_num, ok_mulO, ok_divO, ok_addO, trivial⟩ [(4, [(1, 1), (1, 2), (1, 3), (1, 4), (9, 0), (12, 0), (12, 1)])] (k := 2) (fn := Try.f94) rfl rfl rfl rfl rfl rfl ?_
    (repeat' ((try (conv => whnf)); first | (with_reducible first | refine And.intro ?_ ?_ | refine WX.of ?_) | exact zc | ((with_reducible refine VC.mk ?_); exact zw) | ((with_reducible refine VC.mk ?_); (try dsimp only); (try simp (disch := omega) only [w64]); first  |  exact ⟨trivial, smF_1 (by omega), hu⟩  |  exact ⟨trivial, hm, smF_1 (by omega)⟩  |  exact ⟨trivial, hx, hd⟩) | (with_reducible first | refine splitT ?_ | refine splitF ?_) | ((with_reducible refine splitM.mk (fun hsm => ?_) (fun hsm => ?_)) <;> (try exact zx)) | ((with_reducible refine splitB.mk (fun h => ?_) (fun h => ?_)) <;> (try simp only [zs, ne_eq] at h) <;> (try simp (disch := omega) only [w64] at h) <;> (try exact zx)) | (with_reducible intro hz; (try exact absurd hz (Nat.succ_ne_zero _)))))
    all_goals (refine ⟨?_⟩; dsimp only; simp (disch := omega) only [w64, Bool.or_assoc])
def s_lineC : Spec := fun args S => match args, S with
  | [.agg [.int .i64 up, .int .i64 uq, .sl 0 s n x], .agg [.int .i64 vp, .bool vb], .agg [.int .i64 xp, .int .i64 xq], .int .i64 i], [.arr (.prod (.int .i64) (.int .i64)) l 2 wr] => ⟨(s + n ≤ l.length ∧ n ≤ 1048576) ∧ -1000000000 ≤ vp ∧ vp ≤ 1000000000, .int .i64 (if (scB up uq (seg l s n) && decide (2 ≤ vp ∧ vp ≤ 40) && fOk xp xq) = true then (if 0 ≤ i ∧ i ≤ vp - 1 then 0 else 2) else 1), [.arr (.prod (.int .i64) (.int .i64)) l 2 wr]⟩
  | _, _ => noSpec
theorem ok_lineCode : SpecOk Try.prog 92 s_lineC := by
  intro args S h; unfold s_lineC at h ⊢; (split at h <;> first | exact False.elim h | skip)
  dsimp only at h ⊢
  rename_i up uq s n x vp vb xp xq i l wr
  obtain ⟨h1, h2⟩ := h
  refine funW tabOk (E := [(56, s_vScale), (114, s_ver), (37, s_fOk), (71, s_within)]) ⟨ok_ValidScale, ok_ValidVernier, ok_ValidFrac, ok_within, trivial⟩ [] (k := 1) (fn := Try.f92) rfl rfl rfl rfl rfl rfl ?_
  (repeat' ((try (conv => whnf)); first | (with_reducible first | refine And.intro ?_ ?_ | refine WX.of ?_) | exact zc | ((with_reducible refine VC.mk ?_); exact zw) | ((with_reducible refine VC.mk ?_); exact h1) | (with_reducible first | refine splitT ?_ | refine splitF ?_) | ((with_reducible refine splitM.mk (fun hsm => ?_) (fun hsm => ?_)) <;> (try exact zx)) | ((with_reducible refine splitB.mk (fun h => ?_) (fun h => ?_)) <;> (try simp only [zs, ne_eq] at h) <;> (try simp (disch := omega) only [w64] at h) <;> (try exact zx)) | (with_reducible intro hz; (try exact absurd hz (Nat.succ_ne_zero _)))))
  all_goals (refine ⟨?_⟩; first | (simp_all; done) | (simp_all; omega))
theorem sc_sz {up uq : Int} {E : List (Int × Int)} (h : scB up uq E = true) : fOk up uq = true ∧ (0 < up ∧ up ≤ 1000 * uq) ∧ 2 ≤ E.length ∧ E.length ≤ 60 := by
  unfold scB at h
  simp only [Bool.and_eq_true, decide_eq_true_eq] at h
  exact ⟨h.1.1.1, h.1.1.2, h.1.2⟩
def s_fitI : Spec := fun args S => match args, S with
  | [.agg [.int .i64 up, .int .i64 uq, .sl 0 s n x], .agg [.int .i64 vp, .bool vb], .agg [.int .i64 xp, .int .i64 xq]], [.arr (.prod (.int .i64) (.int .i64)) l 2 wr] => ⟨s + n ≤ l.length ∧ scB up uq (seg l s n) = true ∧ (2 ≤ vp ∧ vp ≤ 40) ∧ fOk xp xq = true, .tup [.int .i64 (eV 0 (fitE (up, uq) (seg l s n) vp vb (xp, xq))), .int .i64 (eC (fitE (up, uq) (seg l s n) vp vb (xp, xq)))], [.arr (.prod (.int .i64) (.int .i64)) l 2 wr]⟩
  | _, _ => noSpec
theorem fit_1 {u : FrT} {E : List FrT} {vp : Int} {vb : Bool} {x : FrT} (h : cmpF x.1 x.2 (mkV u 0 (elT E 0)).1 (mkV u 0 (elT E 0)).2 < 0) : fitE u E vp vb x = .error 2 := by unfold fitE; rw [if_pos h]
theorem fit_2 {u : FrT} {E : List FrT} {vp : Int} {vb : Bool} {x : FrT} (h : ¬ cmpF x.1 x.2 (mkV u 0 (elT E 0)).1 (mkV u 0 (elT E 0)).2 < 0) (h2 : lnX u vp vb x (vp - 1) = true) : fitE u E vp vb x = .error 3 := by
  rw [(ln_e u vp vb x (vp - 1)).1] at h2
  unfold fitE; rw [if_neg h]
  cases h3 : lnO' u vp vb x (vp - 1) with
  | none => rfl
  | some v => rw [h3] at h2; simp at h2
theorem fit_3 {u : FrT} {E : List FrT} {vp : Int} {vb : Bool} {x : FrT} (h : ¬ cmpF x.1 x.2 (mkV u 0 (elT E 0)).1 (mkV u 0 (elT E 0)).2 < 0) (h2 : lnX u vp vb x (vp - 1) = false) : fitE u E vp vb x = if cmpF (lnV u vp vb x (vp - 1)).1 (lnV u vp vb x (vp - 1)).2 (mkV u ((E.length : Int) - 1) (elT E (E.length - 1))).1 (mkV u ((E.length : Int) - 1) (elT E (E.length - 1))).2 > 0 then .error 2 else
  if anyN (ftX u E vp vb x) vp.toNat = true then .error 3 else .ok (amin (ftD u E vp vb x) vp.toNat).1 := by
  have hl := ln_e u vp vb x (vp - 1)
  rw [hl.1] at h2
  unfold fitE; rw [if_neg h]
  cases h3 : lnO' u vp vb x (vp - 1) with
  | none => rw [h3] at h2; simp at h2
  | some v => rw [hl.2 v h3]; rfl
attribute [local irreducible] sbO muO adO dvO mkV lnV lnX in
set_option maxHeartbeats 3200000 in
theorem ok_LineThatFits : SpecOk Try.prog 58 s_fitI := by
  intro args S h; unfold s_fitI at h ⊢; (split at h <;> first | exact False.elim h | skip)
  dsimp only at h ⊢
  rename_i up uq s n x vp vb xp xq l wr
  obtain ⟨h1, hsc, hv, hx⟩ := h
  have hL := seg_len h1
  have hxs := smF_ok hx
  have hE := sc_el hsc
  have hsz := sc_sz hsc
  rw [hL] at hsz
  have hu := smF_ok hsz.1
  have hcode : (if (scB up uq (seg l s n) && decide (2 ≤ vp ∧ vp ≤ 40) && fOk xp xq) = true then (if (0 : Int) ≤ 0 ∧ 0 ≤ vp - 1 then (0 : Int) else 2) else 1) = 0 := by rw [hsc, decide_eq_true hv, hx]; simp; omega
  have hm0 := mkV_sm (up, uq) 0 (elT (seg l s n) 0)
  have hw1 : IntKind.i64.wrap (vp - 1) = vp - 1 := w64 (by omega)
  have hw2 : IntKind.i64.wrap ((n : Int) - 1) = (n : Int) - 1 := w64 (by omega)
  have ht2 : ((n : Int) - 1).toNat = n - 1 := by omega
  have f1 := fit_1 (u := (up, uq)) (E := seg l s n) (vp := vp) (vb := vb) (x := (xp, xq))
  have f2 := fit_2 (u := (up, uq)) (E := seg l s n) (vp := vp) (vb := vb) (x := (xp, xq))
  have f3 := fit_3 (u := (up, uq)) (E := seg l s n) (vp := vp) (vb := vb) (x := (xp, xq))
  rw [hL] at f3
  refine funW tabOk (E := [(92, s_lineC), (93, s_markI), (38, s_cmp), (94, s_lineI), (95, s_nearI), (61, s_zero)]) ⟨ok_lineCode, ok_markI, ok_compare, ok_lineI, ok_nearI, ok_zero, trivial⟩ [(4, [(0, 1)]), (10, [(0, 1)]), (16, [(1, 1), (12, 0), (12, 1)])] (k := 1) (fn := Try.f58) rfl rfl rfl rfl rfl rfl ?_
  (repeat' ((try (conv => whnf)); first | (with_reducible first | refine And.intro ?_ ?_ | refine WX.of ?_) | exact zc | ((with_reducible refine VC.mk ?_); exact zw) | ((with_reducible refine splitT_of ?_ ?_); (focus (simp only [hcode, ne_eq, not_true_eq_false, Bool.not_true, Bool.not_false, decide_true, decide_false]; done))) | ((with_reducible refine splitF_of ?_ ?_); (focus (simp only [hcode, ne_eq, not_true_eq_false, Bool.not_true, Bool.not_false, decide_true, decide_false]; done))) | ((with_reducible refine VC.mk ?_); exact ⟨⟨h1, by omega⟩, by omega, by omega⟩) | ((with_reducible refine VC.mk ?_); exact ⟨⟨h1, hsz.2.2.2⟩, ⟨by omega, by omega⟩, hu, hE⟩) | ((with_reducible refine VC.mk ?_); exact ⟨hxs, hm0⟩) | ((with_reducible refine VC.mk ?_); exact ⟨rfl, hu, hv, ⟨by dsimp only; rw [hw1]; omega, by dsimp only; rw [hw1]; omega⟩, hxs⟩) | ((with_reducible refine VC.mk ?_); exact ⟨⟨h1, hsz.2.2.2⟩, ⟨by rw [hw2]; omega, by rw [hw2]; omega⟩, hu, hE⟩) | ((with_reducible refine VC.mk ?_); exact ⟨lnV_sm _ _ _ _ _, mkV_sm _ _ _⟩) | (with_reducible first | refine splitT ?_ | refine splitF ?_) | ((with_reducible refine splitM.mk (fun hsm => ?_) (fun hsm => ?_)) <;> (try exact zx)) | ((with_reducible refine splitB.mk (fun h => ?_) (fun h => ?_)) <;> (try simp only [zs, ne_eq] at h) <;> (try simp (disch := omega) only [w64] at h) <;> (try exact zx)) | (with_reducible intro hz; (try exact absurd hz (Nat.succ_ne_zero _)))))
  · exact ⟨by rw [f1 h]; rfl⟩
  · rename_i hc
    exact ⟨by rw [f2 (Int.not_lt.2 hc) (by simpa using h)]; rfl⟩
  · rename_i hc hb
    rw [ht2] at h
    exact ⟨by rw [f3 (Int.not_lt.2 hc) (by simpa using hb), if_pos h]; rfl⟩
  · rename_i hc hb
    rw [ht2] at h
    have hb : lnX (up, uq) vp vb (xp, xq) (vp - 1) = false := by simpa using hb
    have f4 := f3 (Int.not_lt.2 hc) hb
    rw [if_neg (by omega)] at f4
    rw [f4]
    refine loopW tabOk (E := [(92, s_lineC), (93, s_markI), (38, s_cmp), (94, s_lineI), (95, s_nearI), (61, s_zero)]) ⟨ok_lineCode, ok_markI, ok_compare, ok_lineI, ok_nearI, ok_zero, trivial⟩ [(4, [(0, 1)]), (10, [(0, 1)]), (16, [(1, 1), (12, 0), (12, 1)])] (σ := Nat) (fun i => [(3, .ptr 1 0 0), (4, .ptr 2 0 0), (5, .ptr 3 0 0), (9, .ptr 4 0 0), (11, .int .i64 (amin (ftD (up, uq) (seg l s n) vp vb (xp, xq)) i).1), (12, .ptr 6 0 0), (53, .int .i64 vp), (54, .int .i64 i)]) (fun i => [.arr (.prod (.int .i64) (.int .i64)) l 2 wr, .box [.int .i64 up, .int .i64 uq, .sl 0 s n x] true false, .arr (.prod (.int .i64) .bool) [(vp, vb)] 0 true, .arr (.prod (.int .i64) (.int .i64)) [(xp, xq)] 0 true, .arr .bool [anyN (ftX (up, uq) (seg l s n) vp vb (xp, xq)) i] 0 true, .gone, .arr (.prod (.int .i64) (.int .i64)) [(amin (ftD (up, uq) (seg l s n) vp vb (xp, xq)) i).2] 0 true]) (fun i => vp.toNat - i) (fun i => i ≤ vp.toNat) 0 (Nat.zero_le _) ?_ ?_
    · (repeat' ((try (conv => whnf)); first | (with_reducible first | refine And.intro ?_ ?_ | refine WX.of ?_) | exact zc | ((with_reducible refine VC.mk ?_); exact zw) | (with_reducible first | refine splitT ?_ | refine splitF ?_) | ((with_reducible refine splitM.mk (fun hsm => ?_) (fun hsm => ?_)) <;> (try exact zx)) | ((with_reducible refine splitB.mk (fun h => ?_) (fun h => ?_)) <;> (try simp only [zs, ne_eq] at h) <;> (try simp (disch := omega) only [w64] at h) <;> (try exact zx)) | (with_reducible intro hz; (try exact absurd hz (Nat.succ_ne_zero _)))))
      refine ⟨?_⟩
      dsimp only
      rw [hw1, hb]
      rfl
    · intro i hi
      have hb := amin_b (ftD_sm (up, uq) (seg l s n) vp vb (xp, xq)) i
      have hd := ftD_sm (up, uq) (seg l s n) vp vb (xp, xq) i
      have hln := lnV_sm (up, uq) vp vb (xp, xq) i
      have hn9 : (ftD (up, uq) (seg l s n) vp vb (xp, xq) i) = (amin (nrD (up, uq) (seg l s n) (lnV (up, uq) vp vb (xp, xq) i)) n).2 := by unfold ftD; rw [hL]
      have hn8 : (ftX (up, uq) (seg l s n) vp vb (xp, xq) i) = (lnX (up, uq) vp vb (xp, xq) i || anyN (nrX (up, uq) (seg l s n) (lnV (up, uq) vp vb (xp, xq) i)) n) := by unfold ftX; rw [hL]
      by_cases hlt : i < vp.toNat
      · (repeat' ((try (conv => whnf)); first | (with_reducible first | refine And.intro ?_ ?_ | refine WX.of ?_) | exact zc | ((with_reducible refine VC.mk ?_); exact zw) | ((with_reducible refine VC.mk ?_); exact ⟨rfl, hu, hv, ⟨by omega, by omega⟩, hxs⟩) | ((with_reducible refine VC.mk ?_); exact ⟨rfl, ⟨h1, hsz.2.2.2⟩, hu, hE, hln⟩) | ((with_reducible refine VC.mk ?_); exact ⟨by rw [← hn9]; exact hd, hb.2⟩) | (with_reducible first | refine splitT ?_ | refine splitF ?_) | ((with_reducible refine splitM.mk (fun hsm => ?_) (fun hsm => ?_)) <;> (try exact zx)) | ((with_reducible refine splitB.mk (fun h => ?_) (fun h => ?_)) <;> (try simp only [zs, ne_eq] at h) <;> (try simp (disch := omega) only [w64] at h) <;> (try exact zx)) | (with_reducible intro hz; (try exact absurd hz (Nat.succ_ne_zero _)))))
        · refine ⟨i + 1, by omega, hlt, ?_⟩
          rw [amin_y (.inl h), hn9]
          (repeat' ((try (conv => whnf)); first | (with_reducible first | refine And.intro ?_ ?_ | refine WX.of ?_) | exact zc | ((with_reducible refine VC.mk ?_); exact zw) | (with_reducible first | refine splitT ?_ | refine splitF ?_) | ((with_reducible refine splitM.mk (fun hsm => ?_) (fun hsm => ?_)) <;> (try exact zx)) | ((with_reducible refine splitB.mk (fun h => ?_) (fun h => ?_)) <;> (try simp only [zs, ne_eq] at h) <;> (try simp (disch := omega) only [w64] at h) <;> (try exact zx)) | (with_reducible intro hz; (try exact absurd hz (Nat.succ_ne_zero _)))))
          exact ⟨by rw [show anyN (ftX (up, uq) (seg l s n) vp vb (xp, xq)) (i + 1) = (anyN (ftX (up, uq) (seg l s n) vp vb (xp, xq)) i || ftX (up, uq) (seg l s n) vp vb (xp, xq) i) from rfl, hn8]; exact congrArg (fun z => [z]) (Bool.or_assoc ..)⟩
        · refine ⟨i + 1, by omega, hlt, ?_⟩
          have hc : cmpF ((ftD (up, uq) (seg l s n) vp vb (xp, xq)) i).1 ((ftD (up, uq) (seg l s n) vp vb (xp, xq)) i).2 (amin (ftD (up, uq) (seg l s n) vp vb (xp, xq)) i).2.1 (amin (ftD (up, uq) (seg l s n) vp vb (xp, xq)) i).2.2 < 0 := by rw [hn9]; exact h
          rw [amin_y (.inr hc), hn9]
          (repeat' ((try (conv => whnf)); first | (with_reducible first | refine And.intro ?_ ?_ | refine WX.of ?_) | exact zc | ((with_reducible refine VC.mk ?_); exact zw) | (with_reducible first | refine splitT ?_ | refine splitF ?_) | ((with_reducible refine splitM.mk (fun hsm => ?_) (fun hsm => ?_)) <;> (try exact zx)) | ((with_reducible refine splitB.mk (fun h => ?_) (fun h => ?_)) <;> (try simp only [zs, ne_eq] at h) <;> (try simp (disch := omega) only [w64] at h) <;> (try exact zx)) | (with_reducible intro hz; (try exact absurd hz (Nat.succ_ne_zero _)))))
          exact ⟨by rw [show anyN (ftX (up, uq) (seg l s n) vp vb (xp, xq)) (i + 1) = (anyN (ftX (up, uq) (seg l s n) vp vb (xp, xq)) i || ftX (up, uq) (seg l s n) vp vb (xp, xq) i) from rfl, hn8]; exact congrArg (fun z => [z]) (Bool.or_assoc ..)⟩
        · rename_i h0
          refine ⟨i + 1, by omega, hlt, ?_⟩
          have hc : ¬ cmpF ((ftD (up, uq) (seg l s n) vp vb (xp, xq)) i).1 ((ftD (up, uq) (seg l s n) vp vb (xp, xq)) i).2 (amin (ftD (up, uq) (seg l s n) vp vb (xp, xq)) i).2.1 (amin (ftD (up, uq) (seg l s n) vp vb (xp, xq)) i).2.2 < 0 := by rw [hn9]; exact Int.not_lt.2 h
          rw [amin_n (fun e => e.elim (fun e => absurd e (by omega)) hc)]
          (repeat' ((try (conv => whnf)); first | (with_reducible first | refine And.intro ?_ ?_ | refine WX.of ?_) | exact zc | ((with_reducible refine VC.mk ?_); exact zw) | (with_reducible first | refine splitT ?_ | refine splitF ?_) | ((with_reducible refine splitM.mk (fun hsm => ?_) (fun hsm => ?_)) <;> (try exact zx)) | ((with_reducible refine splitB.mk (fun h => ?_) (fun h => ?_)) <;> (try simp only [zs, ne_eq] at h) <;> (try simp (disch := omega) only [w64] at h) <;> (try exact zx)) | (with_reducible intro hz; (try exact absurd hz (Nat.succ_ne_zero _)))))
          exact ⟨by rw [show anyN (ftX (up, uq) (seg l s n) vp vb (xp, xq)) (i + 1) = (anyN (ftX (up, uq) (seg l s n) vp vb (xp, xq)) i || ftX (up, uq) (seg l s n) vp vb (xp, xq) i) from rfl, hn8]; exact congrArg (fun z => [z]) (Bool.or_assoc ..)⟩
      · obtain rfl : i = vp.toNat := by omega
        (repeat' ((try (conv => whnf)); first | (with_reducible first | refine And.intro ?_ ?_ | refine WX.of ?_) | exact zc | ((with_reducible refine VC.mk ?_); exact zw) | (with_reducible first | refine splitT ?_ | refine splitF ?_) | ((with_reducible refine splitM.mk (fun hsm => ?_) (fun hsm => ?_)) <;> (try exact zx)) | ((with_reducible refine splitB.mk (fun h => ?_) (fun h => ?_)) <;> (try simp only [zs, ne_eq] at h) <;> (try simp (disch := omega) only [w64] at h) <;> (try exact zx)) | (with_reducible intro hz; (try exact absurd hz (Nat.succ_ne_zero _)))))
        · exact ⟨by rw [if_pos h]; rfl⟩
        · exact ⟨by rw [if_neg (by simp [h])]; rfl⟩
def s_nrst : Spec := fun args S => match args, S with
  | [.int .i64 p, .int .i64 q], [] => ⟨(0 < q ∧ q ≤ 1000000000000000000) ∧ -1000000000000000000 ≤ p ∧ p ≤ 1000000000000000000, .tup [.int .i64 ((2 * p + q) / (2 * q)), .bool (decide (-1000000000 ≤ (2 * p + q) / (2 * q) ∧ (2 * p + q) / (2 * q) ≤ 1000000000))], []⟩
  | _, _ => noSpec
theorem ok_nearest : SpecOk Try.prog 59 s_nrst := by
  intro args S h; unfold s_nrst at h ⊢; (split at h <;> first | exact False.elim h | skip)
  dsimp only at h ⊢
  rename_i p q
  refine funW tabOk (E := [(96, s_floor), (71, s_within)]) ⟨ok_floorDiv, ok_within, trivial⟩ [] (k := 0) (fn := Try.f59) rfl rfl rfl rfl rfl rfl ?_
  (repeat' ((try (conv => whnf)); first | (with_reducible first | refine And.intro ?_ ?_ | refine WX.of ?_) | exact zc | ((with_reducible refine VC.mk ?_); exact zw) | ((with_reducible refine VC.mk ?_); simp (disch := omega) only [w64]; omega) | (with_reducible first | refine splitT ?_ | refine splitF ?_) | ((with_reducible refine splitM.mk (fun hsm => ?_) (fun hsm => ?_)) <;> (try exact zx)) | ((with_reducible refine splitB.mk (fun h => ?_) (fun h => ?_)) <;> (try simp only [zs, ne_eq] at h) <;> (try simp (disch := omega) only [w64] at h) <;> (try exact zx)) | (with_reducible intro hz; (try exact absurd hz (Nat.succ_ne_zero _)))))
  all_goals (refine ⟨?_⟩; simp (disch := omega) only [w64])
theorem prod_b {a b : Int} (ha : (-1000000000 : Int) ≤ a ∧ a ≤ 1000000000) (hb : 1 ≤ b ∧ b ≤ 1000000000) : -1000000000000000000 ≤ a * b ∧ a * b ≤ 1000000000000000000 := by
  have h1 : a * b ≤ 1000000000 * b := Int.mul_le_mul_of_nonneg_right ha.2 (by omega)
  have h2 : (-1000000000) * b ≤ a * b := Int.mul_le_mul_of_nonneg_right ha.1 (by omega)
  omega
def s_readI : Spec := fun args S => match args, S with
  | [.agg [.int .i64 up, .int .i64 uq, .sl 0 s n x], .agg [.int .i64 vp, .bool vb], .agg [.int .i64 xp, .int .i64 xq]], [.arr (.prod (.int .i64) (.int .i64)) l 2 wr] => ⟨s + n ≤ l.length ∧ scB up uq (seg l s n) = true ∧ (2 ≤ vp ∧ vp ≤ 40) ∧ fOk xp xq = true, .tup [.agg [.int .i64 (eV (0, 0) (readE (up, uq) (seg l s n) vp vb (xp, xq))).1, .int .i64 (eV (0, 0) (readE (up, uq) (seg l s n) vp vb (xp, xq))).2], .int .i64 (eC (readE (up, uq) (seg l s n) vp vb (xp, xq)))], [.arr (.prod (.int .i64) (.int .i64)) l 2 wr]⟩
  | _, _ => noSpec
theorem fit_b {u : FrT} {E : List FrT} {vp : Int} {vb : Bool} {x : FrT} (hv : 2 ≤ vp) {f : Int} (h : fitE u E vp vb x = .ok f) : 0 ≤ f ∧ f ≤ vp - 1 := by
  unfold fitE at h
  split at h
  · cases h
  · cases h3 : lnO' u vp vb x (vp - 1) with
    | none => rw [h3] at h; cases h
    | some v =>
      rw [h3] at h
      simp only [ofO, Except.bind, bind] at h
      split at h
      · cases h
      · split at h
        · cases h
        · cases h
          have := amin_b (ftD_sm u E vp vb x) vp.toNat
          omega
/-- Errors that are no 0. -/
def ENZ {α : Type} (e : EX α) : Prop := ∀ c, e = .error c → c ≠ 0
theorem enz_ofO {α : Type} (o : Option α) : ENZ (ofO o) := fun c h => by
  cases o with
  | none => cases h; decide
  | some v => cases h
theorem enz_bind {α β : Type} {e : EX α} {f : α → EX β} (h1 : ENZ e) (h2 : ∀ a, ENZ (f a)) : ENZ (e.bind f) := fun c h => by
  cases e with
  | error d => cases h; exact h1 _ rfl
  | ok a => exact h2 a c h
theorem enz_ok {α : Type} (a : α) : ENZ (.ok a) := fun c h => by cases h
theorem enz_er {α : Type} {d : Int} (h : d ≠ 0) : ENZ (.error d : EX α) := fun c e => by cases e; exact h
theorem enz_fit (u : FrT) (E : List FrT) (vp : Int) (vb : Bool) (x : FrT) : ENZ (fitE u E vp vb x) := by
  unfold fitE
  split
  · exact enz_er (by decide)
  · refine enz_bind (enz_ofO _) fun a => ?_
    split
    · exact enz_er (by decide)
    · split
      · exact enz_er (by decide)
      · exact enz_ok _
theorem enz_read (u : FrT) (E : List FrT) (vp : Int) (vb : Bool) (x : FrT) : ENZ (readE u E vp vb x) := enz_bind (enz_fit u E vp vb x) fun _ => enz_ofO _
theorem enz_warm (u : FrT) (E : List FrT) (y : FrT) : ENZ (warmE u E y) := by
  unfold warmE
  split
  · exact enz_er (by decide)
  · exact enz_ofO _
theorem splitE {α : Type} {e : EX α} {A B : Prop} (hz : ENZ e) (h1 : ∀ c, e = .error c → A) (h2 : ∀ f, e = .ok f → B) : splitB (decide (eC e ≠ 0)) A B := by
  cases he : e with
  | error c => exact ⟨fun _ => h1 c he, fun q => absurd (hz c he) (of_decide_eq_false q)⟩
  | ok f => exact ⟨fun q => by simp [eC] at q, fun _ => h2 f he⟩
theorem splitFit {u : FrT} {E : List FrT} {vp : Int} {vb : Bool} {x : FrT} {A B : Prop} (hv : 2 ≤ vp) (h1 : ∀ c, fitE u E vp vb x = .error c → A) (h2 : ∀ f, fitE u E vp vb x = .ok f → 0 ≤ f ∧ f ≤ vp - 1 → B) : splitB (decide (eC (fitE u E vp vb x) ≠ 0)) A B := splitE (enz_fit u E vp vb x) h1 fun f h => h2 f h (fit_b hv h)
theorem near_b {r u : FrT} (hr : smF r.1 r.2) (hu : smF u.1 u.2) (h0 : 0 < u.1) : (0 < r.2 * u.1 ∧ r.2 * u.1 ≤ 1000000000000000000) ∧ -1000000000000000000 ≤ r.1 * u.2 ∧ r.1 * u.2 ≤ 1000000000000000000 := by
  unfold smF at hr hu
  have h1 := prod_b (a := r.1) (b := u.2) (by omega) (by omega)
  have h2 := prod_b (a := r.2) (b := u.1) (by omega) (by omega)
  have h3 := mulPos hr.2.1 h0
  exact ⟨⟨by omega, h2.2⟩, h1⟩
theorem near_w {r u : FrT} (hr : smF r.1 r.2) (hu : smF u.1 u.2) (h0 : 0 < u.1) : IntKind.i64.wrap (r.1 * u.2) = r.1 * u.2 ∧ IntKind.i64.wrap (r.2 * u.1) = r.2 * u.1 := by
  have h := near_b hr hu h0
  exact ⟨w64 (by omega), w64 (by omega)⟩
theorem near_p {r u : FrT} (hr : smF r.1 r.2) (hu : smF u.1 u.2) (h0 : 0 < u.1) : (0 < IntKind.i64.wrap (r.2 * u.1) ∧ IntKind.i64.wrap (r.2 * u.1) ≤ 1000000000000000000) ∧ -1000000000000000000 ≤ IntKind.i64.wrap (r.1 * u.2) ∧ IntKind.i64.wrap (r.1 * u.2) ≤ 1000000000000000000 := by
  have h := near_w hr hu h0
  rw [h.1, h.2]
  exact near_b hr hu h0
theorem rd_close {u : FrT} {vp : Int} {vb : Bool} {x : FrT} {f g : Int} (hfl : fln vp vb f = g) (hv : 2 ≤ vp ∧ vp ≤ 40) (hg : 0 ≤ g ∧ g ≤ 40) : (¬ (-1000000000 ≤ (2 * ((tv (sbO x (tv (muO (tv (dvO (g, 1) (vp, 1))) u)))).1 * u.2) + (tv (sbO x (tv (muO (tv (dvO (g, 1) (vp, 1))) u)))).2 * u.1) / (2 * ((tv (sbO x (tv (muO (tv (dvO (g, 1) (vp, 1))) u)))).2 * u.1)) ∧ (2 * ((tv (sbO x (tv (muO (tv (dvO (g, 1) (vp, 1))) u)))).1 * u.2) + (tv (sbO x (tv (muO (tv (dvO (g, 1) (vp, 1))) u)))).2 * u.1) / (2 * ((tv (sbO x (tv (muO (tv (dvO (g, 1) (vp, 1))) u)))).2 * u.1)) ≤ 1000000000) → rvO u vp vb x f = none) ∧ (-1000000000 ≤ (2 * ((tv (sbO x (tv (muO (tv (dvO (g, 1) (vp, 1))) u)))).1 * u.2) + (tv (sbO x (tv (muO (tv (dvO (g, 1) (vp, 1))) u)))).2 * u.1) / (2 * ((tv (sbO x (tv (muO (tv (dvO (g, 1) (vp, 1))) u)))).2 * u.1)) ∧ (2 * ((tv (sbO x (tv (muO (tv (dvO (g, 1) (vp, 1))) u)))).1 * u.2) + (tv (sbO x (tv (muO (tv (dvO (g, 1) (vp, 1))) u)))).2 * u.1) / (2 * ((tv (sbO x (tv (muO (tv (dvO (g, 1) (vp, 1))) u)))).2 * u.1)) ≤ 1000000000 → (false || !(dvO (g, 1) (vp, 1)).isSome || !(muO (tv (dvO (g, 1) (vp, 1))) u).isSome || !(sbO x (tv (muO (tv (dvO (g, 1) (vp, 1))) u))).isSome || !(muO ((2 * ((tv (sbO x (tv (muO (tv (dvO (g, 1) (vp, 1))) u)))).1 * u.2) + (tv (sbO x (tv (muO (tv (dvO (g, 1) (vp, 1))) u)))).2 * u.1) / (2 * ((tv (sbO x (tv (muO (tv (dvO (g, 1) (vp, 1))) u)))).2 * u.1)), 1) u).isSome || !(adO (tv (muO (tv (dvO (g, 1) (vp, 1))) u)) (tv (muO ((2 * ((tv (sbO x (tv (muO (tv (dvO (g, 1) (vp, 1))) u)))).1 * u.2) + (tv (sbO x (tv (muO (tv (dvO (g, 1) (vp, 1))) u)))).2 * u.1) / (2 * ((tv (sbO x (tv (muO (tv (dvO (g, 1) (vp, 1))) u)))).2 * u.1)), 1) u))).isSome) = !(rvO u vp vb x f).isSome ∧ ∀ v, rvO u vp vb x f = some v → tv (adO (tv (muO (tv (dvO (g, 1) (vp, 1))) u)) (tv (muO ((2 * ((tv (sbO x (tv (muO (tv (dvO (g, 1) (vp, 1))) u)))).1 * u.2) + (tv (sbO x (tv (muO (tv (dvO (g, 1) (vp, 1))) u)))).2 * u.1) / (2 * ((tv (sbO x (tv (muO (tv (dvO (g, 1) (vp, 1))) u)))).2 * u.1)), 1) u))) = v) := by
  have hdv : (dvO (g, 1) (vp, 1)).isSome = true := by
    unfold dvO
    rw [if_neg (by dsimp only; omega)]
    have h := redOk_small (p := g * 1) (q := 1 * vp) (by omega) (by omega)
    unfold rO; rw [if_pos h]; rfl
  have ho := rv_e u vp vb x f
  unfold rvX rvV rvN rvP nrN at ho
  rw [hfl] at ho
  constructor
  · intro hn
    rw [decide_eq_false hn] at ho
    have h := ho.1
    simp only [Bool.not_false, Bool.true_or] at h
    cases hr : rvO u vp vb x f with
    | none => rfl
    | some v => rw [hr] at h; simp at h
  · intro hn
    rw [decide_eq_true hn] at ho
    simp only [Bool.not_true, Bool.false_or] at ho
    rw [hdv]
    simp only [Bool.not_true, Bool.false_or]
    exact ho
attribute [local irreducible] sbO muO adO dvO mkV lnV lnX fitE rvO in
set_option maxHeartbeats 3200000 in
theorem ok_ReadVernier : SpecOk Try.prog 28 s_readI := by
  intro args S h; unfold s_readI at h ⊢; (split at h <;> first | exact False.elim h | skip)
  dsimp only at h ⊢
  rename_i up uq s n x vp vb xp xq l wr
  have hq := h
  obtain ⟨h1, hsc, hv, hx⟩ := h
  have hxs := smF_ok hx
  have hsz := sc_sz hsc
  have hu := smF_ok hsz.1
  have hup := hsz.2.1.1
  have hwa : ∀ a b, IntKind.i64.wrap ((tv (sbO a b)).1 * uq) = (tv (sbO a b)).1 * uq := fun a b => (near_w (u := (up, uq)) (smF_sb a b) hu hup).1
  have hwb : ∀ a b, IntKind.i64.wrap ((tv (sbO a b)).2 * up) = (tv (sbO a b)).2 * up := fun a b => (near_w (u := (up, uq)) (smF_sb a b) hu hup).2
  unfold readE
  refine funW tabOk (E := [(58, s_fitI), (26, s_num), (29, s_divO), (54, s_mulO), (25, s_subO), (53, s_addO), (59, s_nrst), (60, s_one)]) ⟨ok_LineThatFits, ok_num, ok_divO, ok_mulO, ok_subO, ok_addO, ok_nearest, ok_one, trivial⟩ [(7, [(5, 0), (9, 0), (9, 1), (9, 2), (11, 0), (11, 1), (11, 2), (11, 3)]), (12, [(2, 1), (2, 2), (7, 0)])] (k := 1) (fn := Try.f28) rfl rfl rfl rfl rfl rfl ?_
  (repeat' ((try (conv => whnf)); first | (with_reducible first | refine And.intro ?_ ?_ | refine WX.of ?_) | exact zc | ((with_reducible refine VC.mk ?_); exact zw) | ((with_reducible refine VC.mk ?_); exact hq) | ((with_reducible refine VC.mk ?_); exact ⟨rfl, smF_1 (by dsimp only [eV]; (try rw [w64 (by omega)]); omega), smF_1 (by dsimp only; omega)⟩) | ((with_reducible refine VC.mk ?_); exact ⟨rfl, smF_dv _ _, hu⟩) | ((with_reducible refine VC.mk ?_); exact ⟨rfl, hxs, smF_mu _ _⟩) | ((with_reducible refine VC.mk ?_); exact near_p (u := (up, uq)) (smF_sb _ _) hu hup) | ((with_reducible refine VC.mk ?_); exact ⟨rfl, smF_1 h, hu⟩) | ((with_reducible refine VC.mk ?_); exact ⟨rfl, smF_mu _ _, smF_mu _ _⟩) | ((with_reducible refine splitFit hv.1 (fun c h => ?_) (fun f h hfb => ?_)) <;> (rw [h])) | (with_reducible first | refine splitT ?_ | refine splitF ?_) | ((with_reducible refine splitM.mk (fun hsm => ?_) (fun hsm => ?_)) <;> (try exact zx)) | ((with_reducible refine splitB.mk (fun h => ?_) (fun h => ?_)) <;> (try simp only [zs, ne_eq] at h) <;> (try simp (disch := omega) only [w64] at h) <;> (try exact zx)) | (with_reducible intro hz; (try exact absurd hz (Nat.succ_ne_zero _)))))
  all_goals ((try dsimp only [eV] at h); (try simp only [pr_eta, hwa, hwb] at h); (try simp (disch := omega) only [w64] at h))
  all_goals (try (dsimp only [eV]; simp only [pr_eta, hwa, hwb]; (try simp (disch := omega) only [w64])))
  · rename_i hfit hvb hf0
    have hc := rd_close (u := (up, uq)) (vp := vp) (vb := vb) (x := (xp, xq)) (f := f) (g := vp - f) (by unfold fln; rw [if_pos ⟨hvb, hf0⟩]) hv (by omega)
    dsimp only at hc
    refine ⟨?_⟩
    show _ = SV.tup [SV.agg [SV.int .i64 (eV (0, 0) (ofO (rvO (up, uq) vp vb (xp, xq) f))).1, SV.int .i64 (eV (0, 0) (ofO (rvO (up, uq) vp vb (xp, xq) f))).2], SV.int .i64 (eC (ofO (rvO (up, uq) vp vb (xp, xq) f)))]
    rw [hc.1 h]
    rfl
  · rename_i hfit hvb hf0
    have hc := rd_close (u := (up, uq)) (vp := vp) (vb := vb) (x := (xp, xq)) (f := f) (g := vp - f) (by unfold fln; rw [if_pos ⟨hvb, hf0⟩]) hv (by omega)
    dsimp only at hc
    refine ⟨?_⟩
    (try dsimp only)
    rw [(hc.2 h).1]
    have h2 := (hc.2 h).2
    show SV.tup [SV.agg [SV.int .i64 _, SV.int .i64 _], SV.int .i64 _] = SV.tup [SV.agg [SV.int .i64 (eV (0, 0) (ofO (rvO (up, uq) vp vb (xp, xq) f))).1, SV.int .i64 (eV (0, 0) (ofO (rvO (up, uq) vp vb (xp, xq) f))).2], SV.int .i64 (eC (ofO (rvO (up, uq) vp vb (xp, xq) f)))]
    cases hr : rvO (up, uq) vp vb (xp, xq) f with
    | none => simp [ofO, eC, eV]
    | some v => rw [h2 v hr]; simp [ofO, eC, eV]
  · rename_i hfit hvb hf0
    have hc := rd_close (u := (up, uq)) (vp := vp) (vb := vb) (x := (xp, xq)) (f := f) (g := f) (by unfold fln; rw [if_neg (fun e => e.2 hf0)]) hv (by omega)
    dsimp only at hc
    refine ⟨?_⟩
    show _ = SV.tup [SV.agg [SV.int .i64 (eV (0, 0) (ofO (rvO (up, uq) vp vb (xp, xq) f))).1, SV.int .i64 (eV (0, 0) (ofO (rvO (up, uq) vp vb (xp, xq) f))).2], SV.int .i64 (eC (ofO (rvO (up, uq) vp vb (xp, xq) f)))]
    rw [hc.1 h]
    rfl
  · rename_i hfit hvb hf0
    have hc := rd_close (u := (up, uq)) (vp := vp) (vb := vb) (x := (xp, xq)) (f := f) (g := f) (by unfold fln; rw [if_neg (fun e => e.2 hf0)]) hv (by omega)
    dsimp only at hc
    refine ⟨?_⟩
    (try dsimp only)
    rw [(hc.2 h).1]
    have h2 := (hc.2 h).2
    show SV.tup [SV.agg [SV.int .i64 _, SV.int .i64 _], SV.int .i64 _] = SV.tup [SV.agg [SV.int .i64 (eV (0, 0) (ofO (rvO (up, uq) vp vb (xp, xq) f))).1, SV.int .i64 (eV (0, 0) (ofO (rvO (up, uq) vp vb (xp, xq) f))).2], SV.int .i64 (eC (ofO (rvO (up, uq) vp vb (xp, xq) f)))]
    cases hr : rvO (up, uq) vp vb (xp, xq) f with
    | none => simp [ofO, eC, eV]
    | some v => rw [h2 v hr]; simp [ofO, eC, eV]
  · rename_i hfit hvb
    have hc := rd_close (u := (up, uq)) (vp := vp) (vb := vb) (x := (xp, xq)) (f := f) (g := f) (by unfold fln; rw [if_neg (fun e => by rw [hvb] at e; exact absurd e.1 (by decide))]) hv (by omega)
    dsimp only at hc
    refine ⟨?_⟩
    show _ = SV.tup [SV.agg [SV.int .i64 (eV (0, 0) (ofO (rvO (up, uq) vp vb (xp, xq) f))).1, SV.int .i64 (eV (0, 0) (ofO (rvO (up, uq) vp vb (xp, xq) f))).2], SV.int .i64 (eC (ofO (rvO (up, uq) vp vb (xp, xq) f)))]
    rw [hc.1 h]
    rfl
  · rename_i hfit hvb
    have hc := rd_close (u := (up, uq)) (vp := vp) (vb := vb) (x := (xp, xq)) (f := f) (g := f) (by unfold fln; rw [if_neg (fun e => by rw [hvb] at e; exact absurd e.1 (by decide))]) hv (by omega)
    dsimp only at hc
    refine ⟨?_⟩
    (try dsimp only)
    rw [(hc.2 h).1]
    have h2 := (hc.2 h).2
    show SV.tup [SV.agg [SV.int .i64 _, SV.int .i64 _], SV.int .i64 _] = SV.tup [SV.agg [SV.int .i64 (eV (0, 0) (ofO (rvO (up, uq) vp vb (xp, xq) f))).1, SV.int .i64 (eV (0, 0) (ofO (rvO (up, uq) vp vb (xp, xq) f))).2], SV.int .i64 (eC (ofO (rvO (up, uq) vp vb (xp, xq) f)))]
    cases hr : rvO (up, uq) vp vb (xp, xq) f with
    | none => simp [ofO, eC, eV]
    | some v => rw [h2 v hr]; simp [ofO, eC, eV]
end Go.Proofs.Ytbmejhabgoimeaa.Eng
set_option linter.unusedVariables false
set_option linter.unusedSimpArgs false
namespace Go.Proofs.Ytbmejhabgoimeaa.Eng
open Go Go.RowKit
set_option maxRecDepth 100000
def s_l02MarkW : Spec := fun args S => match args, S with
  | [.ptr 0 0 0, .int .i64 k], [.box [.int .i64 up, .int .i64 uq, .sl 1 s n x] true false, .arr (.prod (.int .i64) (.int .i64)) l 2 wr] => ⟨(s + n ≤ l.length ∧ n ≤ 1048576) ∧ (0 ≤ k ∧ k < n ∧ n ≤ 60) ∧ smF up uq ∧ ∀ a, (seg l s n)[k.toNat]? = some a → smF a.1 a.2, .tup [.agg [.int .i64 (mkP up uq k (((seg l s n)[k.toNat]?).getD (0, 0))), .int .i64 (mkQ up uq k (((seg l s n)[k.toNat]?).getD (0, 0)))], .int .i64 (mkC up uq k (((seg l s n)[k.toNat]?).getD (0, 0)))], [.box [.int .i64 up, .int .i64 uq, .sl 1 s n x] true false, .arr (.prod (.int .i64) (.int .i64)) l 2 wr]⟩
  | _, _ => noSpec
theorem ok_l02MarkW : SpecOk Try.prog 104 s_l02MarkW := by
  intro args S h; unfold s_l02MarkW at h ⊢; (split at h <;> first | exact False.elim h | skip)
  dsimp only at h ⊢
  rename_i k up uq s n x l wr
  obtain ⟨⟨h1, h2⟩, ⟨h3, h4, h5⟩, h6, h7⟩ := h
  have hL := seg_len h1
  obtain ⟨⟨p, q⟩, ha⟩ := get_some (l := seg l s n) (i := k.toNat) (by omega)
  have hs := h7 _ ha
  dsimp only at hs
  have e : ((seg l s n)[k.toNat]?).getD (0, 0) = (p, q) := by rw [ha]; rfl
  rw [e]
  have hk : smF k 1 := smF_1 (by omega)
  have hr : redOk (k * up) (1 * uq) = true → smF (rdP (k * up) (1 * uq)) (rdQ (k * up) (1 * uq)) := fun h => by
    unfold rdP rdQ; rw [if_pos h, if_pos h]; exact smF_ok h
  have hkk : ((k.toNat : Nat) : Int) = k := Int.toNat_of_nonneg h3
  refine funW tabOk (E := [(46, s_num), (81, s_mulS), (82, s_addS)]) ⟨ok_l01Whole, ok_l01Mul, ok_l01Add, trivial⟩ [(1, [(5, 0), (10, 0), (10, 1)])] (k := 2) (fn := Try.f104) rfl rfl rfl rfl rfl rfl ?_
  (repeat' ((try (conv => whnf)); first | (with_reducible first | refine And.intro ?_ ?_ | refine WX.of ?_) | exact zc | ((with_reducible refine VC.mk ?_); exact zw) | ((with_reducible refine VC.mk ?_); exact ⟨hk, h6⟩) | (with_reducible first | refine splitT ?_ | refine splitF ?_) | ((with_reducible refine splitM.mk (fun hsm => ?_) (fun hsm => ?_)) <;> (try exact zx)) | ((with_reducible refine splitB.mk (fun h => ?_) (fun h => ?_)) <;> (try simp only [zs, ne_eq] at h) <;> (try simp (disch := omega) only [w64] at h) <;> (try exact zx)) | (with_reducible intro hz; (try exact absurd hz (Nat.succ_ne_zero _)))))
  · have hb : redOk (k * up) (1 * uq) = false := by
      unfold rdC at h; cases hb : redOk (k * up) (1 * uq) <;> simp_all
    exact ⟨by simp only [mkP, mkQ, mkC, rdC, hb, if_false, Bool.false_eq_true]⟩
  · have hb : redOk (k * up) (1 * uq) = true := by
      unfold rdC at h; cases hb : redOk (k * up) (1 * uq) <;> simp_all
    (repeat' ((try (conv => whnf)); first | (with_reducible first | refine And.intro ?_ ?_ | refine WX.of ?_) | exact zc | ((with_reducible refine VC.mk ?_); exact zw) | with_reducible refine atL_p (seg_get ha).1 ?_ | ((with_reducible refine VC.mk ?_); exact ⟨hr hb, hs⟩) | (with_reducible first | refine splitT ?_ | refine splitF ?_) | ((with_reducible refine splitM.mk (fun hsm => ?_) (fun hsm => ?_)) <;> (try exact zx)) | ((with_reducible refine splitB.mk (fun h => ?_) (fun h => ?_)) <;> (try simp only [zs, ne_eq] at h) <;> (try simp (disch := omega) only [w64] at h) <;> (try exact zx)) | (with_reducible intro hz; (try exact absurd hz (Nat.succ_ne_zero _)))))
    all_goals exact ⟨by simp only [mkP, mkQ, mkC, hb, if_true]⟩
def s_l02OkW : Spec := fun args S => match args, S with
  | [.ptr 0 0 0], [.box [.int .i64 up, .int .i64 uq, .sl 1 s n x] true false, .arr (.prod (.int .i64) (.int .i64)) l 2 wr] => ⟨s + n ≤ l.length ∧ n ≤ 1048576, .bool (scB up uq (seg l s n)), [.box [.int .i64 up, .int .i64 uq, .sl 1 s n x] true false, .arr (.prod (.int .i64) (.int .i64)) l 2 wr]⟩
  | _, _ => noSpec
theorem ok_l02OkW : SpecOk Try.prog 73 s_l02OkW := by
  intro args S h; unfold s_l02OkW at h ⊢; (split at h <;> first | exact False.elim h | skip)
  dsimp only at h ⊢
  rename_i up uq s n x l wr
  obtain ⟨h1, h2⟩ := h
  have hL := seg_len h1
  refine funW tabOk (E := [(77, s_wi), (78, s_within), (79, s_fOk), (80, s_abs), (104, s_l02MarkW)]) ⟨ok_l02Within, ok_l00In, ok_l01Ok, ok_l01Abs, ok_l02MarkW, trivial⟩ [(7, [(12, 1), (18, 1), (20, 1)])] (k := 2) (fn := Try.f73) rfl rfl rfl rfl rfl rfl ?_
  (repeat' ((try (conv => whnf)); first | (with_reducible first | refine And.intro ?_ ?_ | refine WX.of ?_) | exact zc | ((with_reducible refine VC.mk ?_); exact zw) | (with_reducible first | refine splitT ?_ | refine splitF ?_) | ((with_reducible refine splitM.mk (fun hsm => ?_) (fun hsm => ?_)) <;> (try exact zx)) | ((with_reducible refine splitB.mk (fun h => ?_) (fun h => ?_)) <;> (try simp only [zs, ne_eq] at h) <;> (try simp (disch := omega) only [w64] at h) <;> (try exact zx)) | (with_reducible intro hz; (try exact absurd hz (Nat.succ_ne_zero _)))))
  · exact ⟨congrArg SV.bool (by unfold wiB at h; unfold scB; rw [← Bool.and_assoc (fOk up uq), h, Bool.false_and, Bool.false_and])⟩
  · rename_i hw
    exact ⟨congrArg SV.bool (by unfold scB; rw [hL, show decide (2 ≤ n ∧ n ≤ 60) = false from decide_eq_false (by omega), Bool.and_false, Bool.false_and])⟩
  · rename_i hw
    have hn := h
    have hw2 : fOk up uq = true ∧ 0 < up ∧ up ≤ 1000 * uq := by simpa [wiB, and_assoc] using hw
    have hsU := smF_ok hw2.1
    have hU := hsU
    unfold smF at hU
    refine loopW tabOk (E := [(77, s_wi), (78, s_within), (79, s_fOk), (80, s_abs), (104, s_l02MarkW)]) ⟨ok_l02Within, ok_l00In, ok_l01Ok, ok_l01Abs, ok_l02MarkW, trivial⟩ [(7, [(12, 1), (18, 1), (20, 1)])] (σ := Nat) (fun i => [(0, .ptr 0 0 0), (3, .int .i64 i)]) (fun i => [.box [.int .i64 up, .int .i64 uq, .sl 1 s n x] true false, .arr (.prod (.int .i64) (.int .i64)) l 2 wr]) (fun i => n - i) (fun i => i ≤ n ∧ ∀ (j : Nat) (a : Int × Int), j < i → (seg l s n)[j]? = some a → elB up uq j a = true) 0 ⟨Nat.zero_le _, fun j a hj => by omega⟩ ?_ ?_
    · (repeat' ((try (conv => whnf)); first | (with_reducible first | refine And.intro ?_ ?_ | refine WX.of ?_) | exact zc | ((with_reducible refine VC.mk ?_); exact zw) | (with_reducible first | refine splitT ?_ | refine splitF ?_) | ((with_reducible refine splitM.mk (fun hsm => ?_) (fun hsm => ?_)) <;> (try exact zx)) | ((with_reducible refine splitB.mk (fun h => ?_) (fun h => ?_)) <;> (try simp only [zs, ne_eq] at h) <;> (try simp (disch := omega) only [w64] at h) <;> (try exact zx)) | (with_reducible intro hz; (try exact absurd hz (Nat.succ_ne_zero _)))))
    · intro i ⟨hi, hp⟩
      by_cases hlt : i < n
      · obtain ⟨⟨p, q⟩, ha⟩ := get_some (l := seg l s n) (i := i) (by omega)
        have e : ((seg l s n)[((i : Nat) : Int).toNat]?).getD (0, 0) = (p, q) := by rw [Int.toNat_natCast, ha]; rfl
        by_cases hf : fOk p q = true
        · have hsf := smF_ok hf
          have hsb := hsf
          unfold smF at hsb
          have hq4 := quad hsU hsf
          have hall : ∀ a, (seg l s n)[((i : Nat) : Int).toNat]? = some a → smF a.1 a.2 := fun a h => by
            rw [Int.toNat_natCast, ha] at h; obtain rfl := Option.some.inj h; exact hsf
          (repeat' ((try (conv => whnf)); first | (with_reducible first | refine And.intro ?_ ?_ | refine WX.of ?_) | exact zc | ((with_reducible refine VC.mk ?_); exact zw) | with_reducible refine atL_i ha ?_ | ((with_reducible refine splitT_of ?_ ?_); (focus (simp only [hf, Bool.not_true, Bool.not_false, decide_true, decide_false]; done))) | ((with_reducible refine splitF_of ?_ ?_); (focus (simp only [hf, Bool.not_true, Bool.not_false, decide_true, decide_false]; done))) | ((with_reducible refine VC.mk ?_); (refine ⟨⟨h1, h2⟩, ?_, hsU, hall⟩); omega) | (with_reducible first | refine splitT ?_ | refine splitF ?_) | ((with_reducible refine splitM.mk (fun hsm => ?_) (fun hsm => ?_)) <;> (try exact zx)) | ((with_reducible refine splitB.mk (fun h => ?_) (fun h => ?_)) <;> (try simp only [zs, ne_eq] at h) <;> (try simp (disch := omega) only [w64] at h) <;> (try exact zx)) | (with_reducible intro hz; (try exact absurd hz (Nat.succ_ne_zero _)))))
          · exact ⟨congrArg SV.bool (by rw [sc_no ha (by unfold elB; dsimp only; rw [show decide (4 * (p.natAbs : Int) * uq ≤ up * q) = false from decide_eq_false (by omega), Bool.and_false, Bool.false_and])])⟩
          · rw [e] at h
            have hm : mkOk up uq i (p, q) = false := by
              cases hm : mkOk up uq i (p, q) with
              | false => rfl
              | true => exact absurd (mkC_ok.2 hm) h
            exact ⟨congrArg SV.bool (by rw [sc_no ha (by unfold elB; rw [hm, Bool.and_false])])⟩
          · rw [e] at h
            have hm := mkC_ok.1 h
            have hd : decide (4 * (p.natAbs : Int) * uq ≤ up * q) = true := decide_eq_true (by omega)
            have hel : elB up uq i (p, q) = true := by unfold elB; rw [hm]; dsimp only; rw [hf, hd]; rfl
            refine ⟨i + 1, by omega, ⟨hlt, upto_step2 ha hel hp⟩, ?_⟩
            (repeat' ((try (conv => whnf)); first | (with_reducible first | refine And.intro ?_ ?_ | refine WX.of ?_) | exact zc | ((with_reducible refine VC.mk ?_); exact zw) | (with_reducible first | refine splitT ?_ | refine splitF ?_) | ((with_reducible refine splitM.mk (fun hsm => ?_) (fun hsm => ?_)) <;> (try exact zx)) | ((with_reducible refine splitB.mk (fun h => ?_) (fun h => ?_)) <;> (try simp only [zs, ne_eq] at h) <;> (try simp (disch := omega) only [w64] at h) <;> (try exact zx)) | (with_reducible intro hz; (try exact absurd hz (Nat.succ_ne_zero _)))))
        · have hf : fOk p q = false := by simpa using hf
          (repeat' ((try (conv => whnf)); first | (with_reducible first | refine And.intro ?_ ?_ | refine WX.of ?_) | exact zc | ((with_reducible refine VC.mk ?_); exact zw) | with_reducible refine atL_i ha ?_ | ((with_reducible refine splitT_of ?_ ?_); (focus (simp only [hf, Bool.not_true, Bool.not_false, decide_true, decide_false]; done))) | ((with_reducible refine splitF_of ?_ ?_); (focus (simp only [hf, Bool.not_true, Bool.not_false, decide_true, decide_false]; done))) | (with_reducible first | refine splitT ?_ | refine splitF ?_) | ((with_reducible refine splitM.mk (fun hsm => ?_) (fun hsm => ?_)) <;> (try exact zx)) | ((with_reducible refine splitB.mk (fun h => ?_) (fun h => ?_)) <;> (try simp only [zs, ne_eq] at h) <;> (try simp (disch := omega) only [w64] at h) <;> (try exact zx)) | (with_reducible intro hz; (try exact absurd hz (Nat.succ_ne_zero _)))))
          all_goals exact ⟨congrArg SV.bool (by rw [sc_no ha (by unfold elB; dsimp only; rw [hf, Bool.false_and, Bool.false_and])])⟩
      · obtain rfl : i = n := by omega
        (repeat' ((try (conv => whnf)); first | (with_reducible first | refine And.intro ?_ ?_ | refine WX.of ?_) | exact zc | ((with_reducible refine VC.mk ?_); exact zw) | (with_reducible first | refine splitT ?_ | refine splitF ?_) | ((with_reducible refine splitM.mk (fun hsm => ?_) (fun hsm => ?_)) <;> (try exact zx)) | ((with_reducible refine splitB.mk (fun h => ?_) (fun h => ?_)) <;> (try simp only [zs, ne_eq] at h) <;> (try simp (disch := omega) only [w64] at h) <;> (try exact zx)) | (with_reducible intro hz; (try exact absurd hz (Nat.succ_ne_zero _)))))
        exact ⟨congrArg SV.bool (sc_yes hL hw2.1 hw2.2 (by omega) hp).symm⟩
theorem rO_n {p q : Int} (h : redOk p q = false) : rO p q = none := by unfold rO; rw [h]; rfl
theorem rO_s {p q : Int} (h : redOk p q = true) : rO p q = some (redP p q, redQ p q) := by unfold rO; rw [h]; rfl
theorem mk_z (up uq k : Int) (e : FrT) : mkP up uq k e = (zv (mkO (up, uq) k e)).1 ∧ mkQ up uq k e = (zv (mkO (up, uq) k e)).2 ∧ mkC up uq k e = oC (mkO (up, uq) k e) := by
  have h1 := zv_r (k * up) (1 * uq)
  have e1 : muO (k, 1) (up, uq) = rO (k * up) (1 * uq) := rfl
  unfold mkP mkQ mkC mkO
  rw [e1]
  cases h : redOk (k * up) (1 * uq) with
  | false => rw [rO_n h]; simp [zv, oC]
  | true =>
    rw [rO_s h] at h1 ⊢
    rw [h1.1, h1.2.1]
    simp only [if_true, Option.bind_some]
    exact zv_r _ _
theorem zv_s (v : FrT) : zv (some v) = v := rfl
/-- A code of what may fail. -/
def oG {α : Type} (o : Option α) : Int := if o.isSome = true then 0 else 3
def s_l02MarkV : Spec := fun args S => match args, S with
  | [.ptr 0 0 0, .int .i64 k], [.box [.int .i64 up, .int .i64 uq, .sl 1 s n x] true false, .arr (.prod (.int .i64) (.int .i64)) l 2 wr] => ⟨(s + n ≤ l.length) ∧ (0 ≤ k ∧ k < n) ∧ scB up uq (seg l s n) = true, .tup [.agg [.int .i64 (mkV (up, uq) k (elT (seg l s n) k.toNat)).1, .int .i64 (mkV (up, uq) k (elT (seg l s n) k.toNat)).2], .int .i64 0], [.box [.int .i64 up, .int .i64 uq, .sl 1 s n x] true false, .arr (.prod (.int .i64) (.int .i64)) l 2 wr]⟩
  | _, _ => noSpec
theorem ok_l02MarkV : SpecOk Try.prog 104 s_l02MarkV := by
  intro args S h; unfold s_l02MarkV at h ⊢; (split at h <;> first | exact False.elim h | skip)
  dsimp only at h ⊢
  rename_i k up uq s n x l wr
  obtain ⟨h1, hk, hsc⟩ := h
  have hL := seg_len h1
  have hsz := sc_sz hsc
  rw [hL] at hsz
  have hel := sc_el hsc
  obtain ⟨e, he⟩ := get_some (l := seg l s n) (i := k.toNat) (by omega)
  obtain ⟨v, hv⟩ := sc_mk hsc he
  have hkk : ((k.toNat : Nat) : Int) = k := Int.toNat_of_nonneg hk.1
  rw [hkk] at hv
  have h2 := ok_l02MarkW [.ptr 0 0 0, .int .i64 k] [.box [.int .i64 up, .int .i64 uq, .sl 1 s n x] true false, .arr (.prod (.int .i64) (.int .i64)) l 2 wr] ⟨⟨h1, by omega⟩, ⟨hk.1, hk.2, hsz.2.2.2⟩, smF_ok hsz.1, fun a ha => hel _ _ ha⟩
  have hm := mk_z up uq k e
  have hd : ((seg l s n)[k.toNat]?).getD (0, 0) = e := by rw [he]; rfl
  simp only [s_l02MarkW, hd, hm.1, hm.2.1, hm.2.2, hv, zv, oC, Option.getD_some, Option.isSome_some, if_true] at h2
  rw [elT_e he, mk_e hv]
  exact h2
/-- The nearest mark, on the reference's side. -/
def nrO (u : FrT) (E : List FrT) (x : FrT) : Option (Int × FrT) := if anyN (nrX u E x) E.length = true then none else some (amin (nrD u E x) E.length)
def zN (o : Option (Int × FrT)) : Int × FrT := o.getD (0, (0, 0))
theorem nrO_b {u : FrT} {E : List FrT} {x : FrT} {v : Int × FrT} (h : nrO u E x = some v) : anyN (nrX u E x) E.length = false ∧ amin (nrD u E x) E.length = v := by
  unfold nrO at h
  split at h
  · simp at h
  · rename_i hn; exact ⟨by simpa using hn, Option.some.inj h⟩
theorem anyN_no {f : Nat → Bool} : ∀ {n : Nat}, (∀ i, i < n → f i = false) → anyN f n = false
  | 0, _ => rfl
  | n + 1, h => by unfold anyN; rw [anyN_no fun i hi => h i (by omega), h n (by omega)]; rfl
theorem amin0_n {d : Nat → FrT} {k : Nat} (h : 0 < k) : amin0 d k = amin d k := by unfold amin0; rw [if_neg (by omega)]
def s_l02NearV : Spec := fun args S => match args, S with
  | [.ptr 0 0 0, .agg [.int .i64 xp, .int .i64 xq]], [.box [.int .i64 up, .int .i64 uq, .sl 1 s n x] true false, .arr (.prod (.int .i64) (.int .i64)) l 2 wr] => ⟨(s + n ≤ l.length) ∧ scB up uq (seg l s n) = true ∧ smF xp xq, .tup [.int .i64 (zN (nrO (up, uq) (seg l s n) (xp, xq))).1, .agg [.int .i64 (zN (nrO (up, uq) (seg l s n) (xp, xq))).2.1, .int .i64 (zN (nrO (up, uq) (seg l s n) (xp, xq))).2.2], .int .i64 (oG (nrO (up, uq) (seg l s n) (xp, xq)))], [.box [.int .i64 up, .int .i64 uq, .sl 1 s n x] true false, .arr (.prod (.int .i64) (.int .i64)) l 2 wr]⟩
  | _, _ => noSpec
theorem nr_none {u : FrT} {E : List FrT} {x : FrT} {i : Nat} (hi : i < E.length) (h : sbO x (mkV u i (elT E i)) = none) : nrO u E x = none := by
  unfold nrO; rw [if_pos (anyN_at (i := i) (by unfold nrX; rw [h]; rfl) hi)]
theorem nr_some {u : FrT} {E : List FrT} {x v : FrT} {i : Nat} (h : sbO x (mkV u i (elT E i)) = some v) : nrX u E x i = false ∧ nrD u E x i = absF v := by
  unfold nrX nrD; rw [h]; exact ⟨rfl, rfl⟩
theorem upN {f : Nat → Bool} {i : Nat} (h : f i = false) (hp : ∀ j, j < i → f j = false) : ∀ j, j < i + 1 → f j = false := fun j hj => by
  by_cases e : j < i
  · exact hp j e
  · obtain rfl : j = i := by omega
    exact h
attribute [local irreducible] sbO muO adO mkV in
set_option maxHeartbeats 1600000 in
theorem ok_l02NearV : SpecOk Try.prog 118 s_l02NearV := by
  intro args S h; unfold s_l02NearV at h ⊢; (split at h <;> first | exact False.elim h | skip)
  dsimp only at h ⊢
  rename_i xp xq up uq s n x l wr
  obtain ⟨h1, hsc, hx⟩ := h
  have hL := seg_len h1
  have hsz := sc_sz hsc
  rw [hL] at hsz
  have hlen : (seg l s n).length = n := hL
  refine funW tabOk (E := [(104, s_l02MarkV), (45, s_subZ), (121, s_size), (105, s_cmp)]) ⟨ok_l02MarkV, ok_l01SubZ, ok_l02Size, ok_l01Cmp, trivial⟩ [] (k := 2) (fn := Try.f118) rfl rfl rfl rfl rfl rfl ?_
  (repeat' ((try (conv => whnf)); first | (with_reducible first | refine And.intro ?_ ?_ | refine WX.of ?_) | exact zc | ((with_reducible refine VC.mk ?_); exact zw) | (with_reducible first | refine splitT ?_ | refine splitF ?_) | ((with_reducible refine splitM.mk (fun hsm => ?_) (fun hsm => ?_)) <;> (try exact zx)) | ((with_reducible refine splitB.mk (fun h => ?_) (fun h => ?_)) <;> (try simp only [zs, ne_eq] at h) <;> (try simp (disch := omega) only [w64] at h) <;> (try exact zx)) | (with_reducible intro hz; (try exact absurd hz (Nat.succ_ne_zero _)))))
  refine loopW tabOk (E := [(104, s_l02MarkV), (45, s_subZ), (121, s_size), (105, s_cmp)]) ⟨ok_l02MarkV, ok_l01SubZ, ok_l02Size, ok_l01Cmp, trivial⟩ [] (σ := Nat) (fun i => [(0, .ptr 0 0 0), (3, .ptr 2 0 0), (5, .ptr 3 0 0), (7, .int .i64 (amin0 (nrD (up, uq) (seg l s n) (xp, xq)) i).1), (8, .ptr 4 0 0), (9, .int .i64 i)]) (fun i => [.box [.int .i64 up, .int .i64 uq, .sl 1 s n x] true false, .arr (.prod (.int .i64) (.int .i64)) l 2 wr, .arr (.prod (.int .i64) (.int .i64)) [(xp, xq)] 0 true, .arr (.prod (.int .i64) (.int .i64)) [(0, 0)] 0 true, .arr (.prod (.int .i64) (.int .i64)) [(amin0 (nrD (up, uq) (seg l s n) (xp, xq)) i).2] 0 true]) (fun i => n - i) (fun i => i ≤ n ∧ ∀ j, j < i → nrX (up, uq) (seg l s n) (xp, xq) j = false) 0 ⟨Nat.zero_le _, fun j hj => by omega⟩ ?_ ?_
  · (repeat' ((try (conv => whnf)); first | (with_reducible first | refine And.intro ?_ ?_ | refine WX.of ?_) | exact zc | ((with_reducible refine VC.mk ?_); exact zw) | (with_reducible first | refine splitT ?_ | refine splitF ?_) | ((with_reducible refine splitM.mk (fun hsm => ?_) (fun hsm => ?_)) <;> (try exact zx)) | ((with_reducible refine splitB.mk (fun h => ?_) (fun h => ?_)) <;> (try simp only [zs, ne_eq] at h) <;> (try simp (disch := omega) only [w64] at h) <;> (try exact zx)) | (with_reducible intro hz; (try exact absurd hz (Nat.succ_ne_zero _)))))
  · intro i ⟨hi, hp⟩
    have hb := amin_b (nrD_sm (up, uq) (seg l s n) (xp, xq)) i
    have hd := nrD_sm (up, uq) (seg l s n) (xp, xq) i
    have hmk := mkV_sm (up, uq) i (elT (seg l s n) i)
    have hm0 : i ≠ 0 → smF (amin0 (nrD (up, uq) (seg l s n) (xp, xq)) i).2.1 (amin0 (nrD (up, uq) (seg l s n) (xp, xq)) i).2.2 := fun h => by rw [amin0_n (by omega)]; exact hb.2
    by_cases hlt : i < n
    · (repeat' ((try (conv => whnf)); first | (with_reducible first | refine And.intro ?_ ?_ | refine WX.of ?_) | exact zc | ((with_reducible refine VC.mk ?_); exact zw) | ((with_reducible refine VC.mk ?_); exact ⟨h1, ⟨by omega, by omega⟩, hsc⟩) | ((with_reducible refine VC.mk ?_); exact ⟨hx, hmk⟩) | ((with_reducible refine VC.mk ?_); exact (by assumption)) | ((with_reducible refine VC.mk ?_); exact ⟨smF_abs hs, hm0 (by omega)⟩) | ((with_reducible refine splitO (okO_sb _ _) (fun h => ?_) (fun a b h hs => ?_)) <;> (try rw [h])) | (with_reducible first | refine splitT ?_ | refine splitF ?_) | ((with_reducible refine splitM.mk (fun hsm => ?_) (fun hsm => ?_)) <;> (try exact zx)) | ((with_reducible refine splitB.mk (fun h => ?_) (fun h => ?_)) <;> (try simp only [zs, ne_eq] at h) <;> (try simp (disch := omega) only [w64] at h) <;> (try exact zx)) | (with_reducible intro hz; (try exact absurd hz (Nat.succ_ne_zero _)))))
      all_goals simp only [Int.toNat_natCast] at *
      · rw [nr_none (by omega) h]
        exact ⟨rfl⟩
      · rename_i hs0
        obtain ⟨h3, h4⟩ := nr_some hs0
        refine ⟨i + 1, by omega, ⟨hlt, upN h3 hp⟩, ?_⟩
        rw [amin0_s, amin_y (.inl (by omega)), h4]
        (repeat' ((try (conv => whnf)); first | (with_reducible first | refine And.intro ?_ ?_ | refine WX.of ?_) | exact zc | ((with_reducible refine VC.mk ?_); exact zw) | (with_reducible first | refine splitT ?_ | refine splitF ?_) | ((with_reducible refine splitM.mk (fun hsm => ?_) (fun hsm => ?_)) <;> (try exact zx)) | ((with_reducible refine splitB.mk (fun h => ?_) (fun h => ?_)) <;> (try simp only [zs, ne_eq] at h) <;> (try simp (disch := omega) only [w64] at h) <;> (try exact zx)) | (with_reducible intro hz; (try exact absurd hz (Nat.succ_ne_zero _)))))
      · rename_i hs0 h0
        obtain ⟨h3, h4⟩ := nr_some hs0
        refine ⟨i + 1, by omega, ⟨hlt, upN h3 hp⟩, ?_⟩
        rw [amin0_n (by omega)] at h
        rw [amin0_s, amin_y (.inr (by rw [h4]; exact h)), h4]
        (repeat' ((try (conv => whnf)); first | (with_reducible first | refine And.intro ?_ ?_ | refine WX.of ?_) | exact zc | ((with_reducible refine VC.mk ?_); exact zw) | (with_reducible first | refine splitT ?_ | refine splitF ?_) | ((with_reducible refine splitM.mk (fun hsm => ?_) (fun hsm => ?_)) <;> (try exact zx)) | ((with_reducible refine splitB.mk (fun h => ?_) (fun h => ?_)) <;> (try simp only [zs, ne_eq] at h) <;> (try simp (disch := omega) only [w64] at h) <;> (try exact zx)) | (with_reducible intro hz; (try exact absurd hz (Nat.succ_ne_zero _)))))
      · rename_i hs0 h0
        obtain ⟨h3, h4⟩ := nr_some hs0
        refine ⟨i + 1, by omega, ⟨hlt, upN h3 hp⟩, ?_⟩
        rw [amin0_n (by omega)] at h
        rw [amin0_s, amin_n (fun e => e.elim (fun e => absurd e (by omega)) (by rw [h4]; exact Int.not_lt.2 h)), ← amin0_n (by omega)]
        (repeat' ((try (conv => whnf)); first | (with_reducible first | refine And.intro ?_ ?_ | refine WX.of ?_) | exact zc | ((with_reducible refine VC.mk ?_); exact zw) | (with_reducible first | refine splitT ?_ | refine splitF ?_) | ((with_reducible refine splitM.mk (fun hsm => ?_) (fun hsm => ?_)) <;> (try exact zx)) | ((with_reducible refine splitB.mk (fun h => ?_) (fun h => ?_)) <;> (try simp only [zs, ne_eq] at h) <;> (try simp (disch := omega) only [w64] at h) <;> (try exact zx)) | (with_reducible intro hz; (try exact absurd hz (Nat.succ_ne_zero _)))))
    · obtain rfl : i = n := by omega
      have hN : nrO (up, uq) (seg l s i) (xp, xq) = some (amin (nrD (up, uq) (seg l s i) (xp, xq)) i) := by
        unfold nrO; rw [hL, if_neg (by rw [anyN_no fun j hj => hp j hj]; decide)]
      rw [hN, amin0_n (by omega)]
      (repeat' ((try (conv => whnf)); first | (with_reducible first | refine And.intro ?_ ?_ | refine WX.of ?_) | exact zc | ((with_reducible refine VC.mk ?_); exact zw) | (with_reducible first | refine splitT ?_ | refine splitF ?_) | ((with_reducible refine splitM.mk (fun hsm => ?_) (fun hsm => ?_)) <;> (try exact zx)) | ((with_reducible refine splitB.mk (fun h => ?_) (fun h => ?_)) <;> (try simp only [zs, ne_eq] at h) <;> (try simp (disch := omega) only [w64] at h) <;> (try exact zx)) | (with_reducible intro hz; (try exact absurd hz (Nat.succ_ne_zero _)))))
def s_l02LineV : Spec := fun args S => match args, S with
  | [.ptr 0 0 0, .ptr 1 0 3, .agg [.int .i64 xp, .int .i64 xq], .int .i64 i], [.box [.int .i64 up, .int .i64 uq, .sl 2 s n x] true false, .box [.int .i64 ap, .int .i64 aq, .sl 3 s' n' x', .int .i64 vp, .bool vb, .int .i64 gp, .int .i64 gq, .sl 4 t m y] true false, .arr (.prod (.int .i64) (.int .i64)) l 2 wr, .arr (.prod (.int .i64) (.int .i64)) l' 2 wr', .arr (.prod .str (.prod (.prod (.int .i64) (.int .i64)) (.prod (.int .i64) (.int .i64)))) T 5 wT] => ⟨smF up uq ∧ (2 ≤ vp ∧ vp ≤ 40) ∧ (0 ≤ i ∧ i ≤ 40) ∧ smF xp xq, .tup [.agg [.int .i64 (zv (lnO' (up, uq) vp vb (xp, xq) i)).1, .int .i64 (zv (lnO' (up, uq) vp vb (xp, xq) i)).2], .int .i64 (oC (lnO' (up, uq) vp vb (xp, xq) i))], [.box [.int .i64 up, .int .i64 uq, .sl 2 s n x] true false, .box [.int .i64 ap, .int .i64 aq, .sl 3 s' n' x', .int .i64 vp, .bool vb, .int .i64 gp, .int .i64 gq, .sl 4 t m y] true false, .arr (.prod (.int .i64) (.int .i64)) l 2 wr, .arr (.prod (.int .i64) (.int .i64)) l' 2 wr', .arr (.prod .str (.prod (.prod (.int .i64) (.int .i64)) (.prod (.int .i64) (.int .i64)))) T 5 wT]⟩
  | _, _ => noSpec
attribute [local irreducible] sbO muO adO dvO mkV in
set_option maxHeartbeats 1600000 in
theorem ok_l02LineV : SpecOk Try.prog 107 s_l02LineV := by
  intro args S h; unfold s_l02LineV at h ⊢; (split at h <;> first | exact False.elim h | skip)
  dsimp only at h ⊢
  rename_i xp xq i up uq s n x ap aq s' n' x' vp vb gp gq t m y l wr l' wr' T wT
  obtain ⟨hu, hv, hi, hx⟩ := h
  have hs := stp_b vb hv hi
  unfold lnO'
  cases vb
  all_goals
    simp only [stp, if_true, if_false, Bool.false_eq_true] at hs ⊢
    refine funW tabOk (E := [(46, s_num), (81, s_mulZ), (49, s_divZ), (82, s_addZ)]) ⟨ok_l01Whole, ok_l01MulZ, ok_l01DivZ, ok_l01AddZ, trivial⟩ [(4, [(7, 0), (12, 0), (12, 1)]), (7, [(0, 1), (10, 0), (10, 1)])] (k := 5) (fn := Try.f107) rfl rfl rfl rfl rfl rfl ?_
    (repeat' ((try (conv => whnf)); first | (with_reducible first | refine And.intro ?_ ?_ | refine WX.of ?_) | exact zc | ((with_reducible refine VC.mk ?_); exact zw) | ((with_reducible refine VC.mk ?_); (try dsimp only); (try simp (disch := omega) only [w64]); first  |  exact ⟨smF_1 (by omega), hu⟩  |  exact ⟨(by assumption), smF_1 (by omega), by omega⟩  |  exact ⟨hx, (by assumption)⟩) | ((with_reducible refine splitO (by first  |  exact okO_sb _ _  |  exact okO_mu _ _  |  exact okO_ad _ _  |  exact okO_dv _ _  |  exact okO_bind _ _ fun _ => okO_ad _ _  |  exact okO_sb _ _) (fun h => ?_) (fun a b h hs => ?_)) <;> (try rw [h]) <;> (try simp only [zv_s] at h) <;> (try dsimp only at h)) | (with_reducible first | refine splitT ?_ | refine splitF ?_) | ((with_reducible refine splitM.mk (fun hsm => ?_) (fun hsm => ?_)) <;> (try exact zx)) | ((with_reducible refine splitB.mk (fun h => ?_) (fun h => ?_)) <;> (try simp only [zs, ne_eq] at h) <;> (try simp (disch := omega) only [w64] at h) <;> (try exact zx)) | (with_reducible intro hz; (try exact absurd hz (Nat.succ_ne_zero _)))))
    all_goals (refine ⟨?_⟩; simp (disch := omega) only [w64] at *; (try simp only [*, zv_s, Option.bind_some, Option.bind_none]); (try rfl))
/-- The misfit of a line. -/
def mfO (u : FrT) (E : List FrT) (vp : Int) (vb : Bool) (x : FrT) (i : Int) : Option FrT := (lnO' u vp vb x i).bind fun a => (nrO u E a).map (·.2)
theorem nrO_sm {u : FrT} {E : List FrT} {x : FrT} {v : Int × FrT} (h : nrO u E x = some v) : smF v.2.1 v.2.2 := by
  have h2 := (nrO_b h).2
  rw [← h2]; exact (amin_b (nrD_sm u E x) _).2
theorem mf_e {u : FrT} {E : List FrT} {vp : Int} {vb : Bool} {x : FrT} {i : Nat} : (mfO u E vp vb x i = none → ftX u E vp vb x i = true) ∧ ∀ v, mfO u E vp vb x i = some v → (ftX u E vp vb x i = false ∧ ftD u E vp vb x i = v) ∧ smF v.1 v.2 := by
  have hl := ln_e u vp vb x i
  unfold mfO ftX ftD
  cases h1 : lnO' u vp vb x i with
  | none => rw [h1] at hl; rw [hl.1]; simp
  | some a =>
    rw [h1] at hl
    rw [hl.1, hl.2 a rfl]
    simp only [Option.bind_some, Option.isSome_some, Bool.not_true, Bool.false_or]
    cases h2 : nrO u E a with
    | none =>
      simp only [Option.map_none, true_implies, reduceCtorEq, false_implies, implies_true, and_true]
      unfold nrO at h2
      split at h2
      · assumption
      · simp at h2
    | some v =>
      have hb := nrO_b h2
      have hsm := nrO_sm h2
      simp only [Option.map_some, reduceCtorEq, false_implies, true_and]
      intro w hw
      obtain rfl := Option.some.inj hw
      exact ⟨⟨hb.1, by rw [hb.2]⟩, hsm⟩
def s_l02MisV : Spec := fun args S => match args, S with
  | [.ptr 0 0 0, .ptr 1 0 3, .agg [.int .i64 xp, .int .i64 xq], .int .i64 i], [.box [.int .i64 up, .int .i64 uq, .sl 2 s n x] true false, .box [.int .i64 ap, .int .i64 aq, .sl 3 s' n' x', .int .i64 vp, .bool vb, .int .i64 gp, .int .i64 gq, .sl 4 t m y] true false, .arr (.prod (.int .i64) (.int .i64)) l 2 wr, .arr (.prod (.int .i64) (.int .i64)) l' 2 wr', .arr (.prod .str (.prod (.prod (.int .i64) (.int .i64)) (.prod (.int .i64) (.int .i64)))) T 5 wT] => ⟨s + n ≤ l.length ∧ scB up uq (seg l s n) = true ∧ (2 ≤ vp ∧ vp ≤ 40) ∧ (0 ≤ i ∧ i ≤ 40) ∧ smF xp xq, .tup [.agg [.int .i64 (zv (mfO (up, uq) (seg l s n) vp vb (xp, xq) i)).1, .int .i64 (zv (mfO (up, uq) (seg l s n) vp vb (xp, xq) i)).2], .int .i64 (oC (mfO (up, uq) (seg l s n) vp vb (xp, xq) i))], [.box [.int .i64 up, .int .i64 uq, .sl 2 s n x] true false, .box [.int .i64 ap, .int .i64 aq, .sl 3 s' n' x', .int .i64 vp, .bool vb, .int .i64 gp, .int .i64 gq, .sl 4 t m y] true false, .arr (.prod (.int .i64) (.int .i64)) l 2 wr, .arr (.prod (.int .i64) (.int .i64)) l' 2 wr', .arr (.prod .str (.prod (.prod (.int .i64) (.int .i64)) (.prod (.int .i64) (.int .i64)))) T 5 wT]⟩
  | _, _ => noSpec
theorem okO_ln (u : FrT) (vp : Int) (vb : Bool) (x : FrT) (i : Int) : OkO (lnO' u vp vb x i) := okO_bind _ _ fun _ => okO_bind _ _ fun _ => okO_ad _ _
attribute [local irreducible] sbO muO adO dvO mkV lnO' nrO in
theorem ok_l02MisV : SpecOk Try.prog 108 s_l02MisV := by
  intro args S h; unfold s_l02MisV at h ⊢; (split at h <;> first | exact False.elim h | skip)
  dsimp only at h ⊢
  rename_i xp xq i up uq s n x ap aq s' n' x' vp vb gp gq t m y l wr l' wr' T wT
  obtain ⟨h1, hsc, hv, hi, hx⟩ := h
  have hu := smF_ok (sc_sz hsc).1
  refine funW tabOk (E := [(107, s_l02LineV), (118, s_l02NearV)]) ⟨ok_l02LineV, ok_l02NearV, trivial⟩ [] (k := 5) (fn := Try.f108) rfl rfl rfl rfl rfl rfl ?_
  (repeat' ((try (conv => whnf)); first | (with_reducible first | refine And.intro ?_ ?_ | refine WX.of ?_) | exact zc | ((with_reducible refine VC.mk ?_); exact zw) | ((with_reducible refine VC.mk ?_); exact ⟨hu, hv, hi, hx⟩) | ((with_reducible refine VC.mk ?_); exact ⟨h1, hsc, (by assumption)⟩) | ((with_reducible refine splitO (by first  |  exact okO_sb _ _  |  exact okO_mu _ _  |  exact okO_ad _ _  |  exact okO_dv _ _  |  exact okO_bind _ _ fun _ => okO_ad _ _  |  exact okO_ln _ _ _ _ _) (fun h => ?_) (fun a b h hs => ?_)) <;> (try rw [h]) <;> (try simp only [zv_s] at h) <;> (try dsimp only at h)) | (with_reducible first | refine splitT ?_ | refine splitF ?_) | ((with_reducible refine splitM.mk (fun hsm => ?_) (fun hsm => ?_)) <;> (try exact zx)) | ((with_reducible refine splitB.mk (fun h => ?_) (fun h => ?_)) <;> (try simp only [zs, ne_eq] at h) <;> (try simp (disch := omega) only [w64] at h) <;> (try exact zx)) | (with_reducible intro hz; (try exact absurd hz (Nat.succ_ne_zero _)))))
  all_goals refine ⟨?_⟩
  · unfold mfO; rw [h]; rfl
  · unfold mfO
    rw [h]
    simp only [Option.bind_some, zv_s]
    cases h2 : nrO (up, uq) (seg l s n) (a, b) <;> rfl
theorem anyFt {u : FrT} {E : List FrT} {vp : Int} {vb : Bool} {x : FrT} {i : Nat} (h : mfO u E vp vb x i = none) (hi : i < vp.toNat) : anyN (ftX u E vp vb x) vp.toNat = true := anyN_at (mf_e.1 h) hi
theorem mfO_sm {u : FrT} {E : List FrT} {vp : Int} {vb : Bool} {x : FrT} {i : Nat} {a b : Int} (h : mfO u E vp vb x i = some (a, b)) : ftX u E vp vb x i = false ∧ ftD u E vp vb x i = (a, b) := (mf_e.2 _ h).1
theorem splitS {o : Option FrT} {A B : Prop} (hf : ∀ v, o = some v → smF v.1 v.2) (h1 : o = none → A) (h2 : ∀ a b, o = some (a, b) → smF a b → B) : splitB (decide (oC o ≠ 0)) A B := by
  cases o with
  | none => exact ⟨fun _ => h1 rfl, fun e => by simp [oC] at e⟩
  | some v => exact ⟨fun e => by simp [oC] at e, fun _ => h2 v.1 v.2 rfl (hf v rfl)⟩
def s_l02FitV : Spec := fun args S => match args, S with
  | [.ptr 0 0 0, .ptr 1 0 3, .agg [.int .i64 xp, .int .i64 xq]], [.box [.int .i64 up, .int .i64 uq, .sl 2 s n x] true false, .box [.int .i64 ap, .int .i64 aq, .sl 3 s' n' x', .int .i64 vp, .bool vb, .int .i64 gp, .int .i64 gq, .sl 4 t m y] true false, .arr (.prod (.int .i64) (.int .i64)) l 2 wr, .arr (.prod (.int .i64) (.int .i64)) l' 2 wr', .arr (.prod .str (.prod (.prod (.int .i64) (.int .i64)) (.prod (.int .i64) (.int .i64)))) T 5 wT] => ⟨s + n ≤ l.length ∧ scB up uq (seg l s n) = true ∧ (2 ≤ vp ∧ vp ≤ 40) ∧ smF xp xq, .tup [.int .i64 (eV 0 (fitE (up, uq) (seg l s n) vp vb (xp, xq))), .int .i64 (eC (fitE (up, uq) (seg l s n) vp vb (xp, xq)))], [.box [.int .i64 up, .int .i64 uq, .sl 2 s n x] true false, .box [.int .i64 ap, .int .i64 aq, .sl 3 s' n' x', .int .i64 vp, .bool vb, .int .i64 gp, .int .i64 gq, .sl 4 t m y] true false, .arr (.prod (.int .i64) (.int .i64)) l 2 wr, .arr (.prod (.int .i64) (.int .i64)) l' 2 wr', .arr (.prod .str (.prod (.prod (.int .i64) (.int .i64)) (.prod (.int .i64) (.int .i64)))) T 5 wT]⟩
  | _, _ => noSpec
theorem fit_2' {u : FrT} {E : List FrT} {vp : Int} {vb : Bool} {x : FrT} (h : ¬ cmpF x.1 x.2 (mkV u 0 (elT E 0)).1 (mkV u 0 (elT E 0)).2 < 0) (h2 : lnO' u vp vb x (vp - 1) = none) : fitE u E vp vb x = .error 3 := by
  unfold fitE; rw [if_neg h, h2]; rfl
theorem fit_3' {u : FrT} {E : List FrT} {vp : Int} {vb : Bool} {x e : FrT} (h : ¬ cmpF x.1 x.2 (mkV u 0 (elT E 0)).1 (mkV u 0 (elT E 0)).2 < 0) (h2 : lnO' u vp vb x (vp - 1) = some e) : fitE u E vp vb x = if cmpF e.1 e.2 (mkV u ((E.length : Int) - 1) (elT E (E.length - 1))).1 (mkV u ((E.length : Int) - 1) (elT E (E.length - 1))).2 > 0 then .error 2 else
  if anyN (ftX u E vp vb x) vp.toNat = true then .error 3 else .ok (amin (ftD u E vp vb x) vp.toNat).1 := by
  unfold fitE; rw [if_neg h, h2]; rfl
attribute [local irreducible] sbO muO adO dvO mkV lnO' nrO mfO fitE in
set_option maxHeartbeats 3200000 in
theorem ok_l02FitV : SpecOk Try.prog 84 s_l02FitV := by
  intro args S h; unfold s_l02FitV at h ⊢; (split at h <;> first | exact False.elim h | skip)
  dsimp only at h ⊢
  rename_i xp xq up uq s n x ap aq s' n' x' vp vb gp gq t m y l wr l' wr' T wT
  obtain ⟨h1, hsc, hv, hx⟩ := h
  have hL := seg_len h1
  have hsz := sc_sz hsc
  rw [hL] at hsz
  have hw2 : IntKind.i64.wrap ((n : Int) - 1) = (n : Int) - 1 := w64 (by omega)
  have hw1 : IntKind.i64.wrap (vp - 1) = vp - 1 := w64 (by omega)
  have ht2 : ((n : Int) - 1).toNat = n - 1 := by omega
  have f1 := fit_1 (u := (up, uq)) (E := seg l s n) (vp := vp) (vb := vb) (x := (xp, xq))
  have f2 := fit_2' (u := (up, uq)) (E := seg l s n) (vp := vp) (vb := vb) (x := (xp, xq))
  have f3 := fun e => fit_3' (u := (up, uq)) (E := seg l s n) (vp := vp) (vb := vb) (x := (xp, xq)) (e := e)
  rw [hL] at f3
  refine funW tabOk (E := [(104, s_l02MarkV), (105, s_cmp), (107, s_l02LineV), (108, s_l02MisV)]) ⟨ok_l02MarkV, ok_l01Cmp, ok_l02LineV, ok_l02MisV, trivial⟩ [(5, [(12, 0)])] (k := 5) (fn := Try.f84) rfl rfl rfl rfl rfl rfl ?_
  (repeat' ((try (conv => whnf)); first | (with_reducible first | refine And.intro ?_ ?_ | refine WX.of ?_) | exact zc | ((with_reducible refine VC.mk ?_); exact zw) | ((with_reducible refine VC.mk ?_); exact ⟨h1, ⟨by decide, by omega⟩, hsc⟩) | ((with_reducible refine VC.mk ?_); exact ⟨h1, ⟨by rw [hw2]; omega, by rw [hw2]; omega⟩, hsc⟩) | ((with_reducible refine VC.mk ?_); exact ⟨hx, mkV_sm _ _ _⟩) | ((with_reducible refine VC.mk ?_); exact ⟨smF_ok (sc_sz hsc).1, hv, ⟨by rw [hw1]; omega, by rw [hw1]; omega⟩, hx⟩) | ((with_reducible refine VC.mk ?_); exact ⟨(by assumption), mkV_sm _ _ _⟩) | ((with_reducible refine splitO (by first  |  exact okO_sb _ _  |  exact okO_mu _ _  |  exact okO_ad _ _  |  exact okO_dv _ _  |  exact okO_bind _ _ fun _ => okO_ad _ _  |  exact okO_ln _ _ _ _ _) (fun h => ?_) (fun a b h hs => ?_)) <;> (try rw [h]) <;> (try simp only [zv_s] at h) <;> (try dsimp only at h)) | (with_reducible first | refine splitT ?_ | refine splitF ?_) | ((with_reducible refine splitM.mk (fun hsm => ?_) (fun hsm => ?_)) <;> (try exact zx)) | ((with_reducible refine splitB.mk (fun h => ?_) (fun h => ?_)) <;> (try simp only [zs, ne_eq] at h) <;> (try simp (disch := omega) only [w64] at h) <;> (try exact zx)) | (with_reducible intro hz; (try exact absurd hz (Nat.succ_ne_zero _)))))
  · exact ⟨by rw [f1 h]; rfl⟩
  · rename_i hc
    rw [hw1] at h
    exact ⟨by rw [f2 (Int.not_lt.2 hc) h]; rfl⟩
  · rename_i hc hl
    rw [hw1] at hl
    rw [ht2] at h
    exact ⟨by rw [(f3 _ (Int.not_lt.2 hc) hl).trans (if_pos h)]; rfl⟩
  · rename_i hc hl
    rw [hw1] at hl
    rw [ht2] at h
    have f4 := (f3 _ (Int.not_lt.2 hc) hl).trans (if_neg (Int.not_lt.2 h))
    rw [f4]
    refine loopW tabOk (E := [(104, s_l02MarkV), (105, s_cmp), (107, s_l02LineV), (108, s_l02MisV)]) ⟨ok_l02MarkV, ok_l01Cmp, ok_l02LineV, ok_l02MisV, trivial⟩ [(5, [(12, 0)])] (σ := Nat) (fun i => [(0, .ptr 0 0 0), (1, .ptr 1 0 3), (5, .ptr 5 0 0), (14, .int .i64 (amin0 (ftD (up, uq) (seg l s n) vp vb (xp, xq)) i).1), (15, .ptr 6 0 0), (16, .int .i64 i)]) (fun i => [.box [.int .i64 up, .int .i64 uq, .sl 2 s n x] true false, .box [.int .i64 ap, .int .i64 aq, .sl 3 s' n' x', .int .i64 vp, .bool vb, .int .i64 gp, .int .i64 gq, .sl 4 t m y] true false, .arr (.prod (.int .i64) (.int .i64)) l 2 wr, .arr (.prod (.int .i64) (.int .i64)) l' 2 wr', .arr (.prod .str (.prod (.prod (.int .i64) (.int .i64)) (.prod (.int .i64) (.int .i64)))) T 5 wT, .arr (.prod (.int .i64) (.int .i64)) [(xp, xq)] 0 true, .arr (.prod (.int .i64) (.int .i64)) [(amin0 (ftD (up, uq) (seg l s n) vp vb (xp, xq)) i).2] 0 true]) (fun i => vp.toNat - i) (fun i => i ≤ vp.toNat ∧ ∀ j, j < i → ftX (up, uq) (seg l s n) vp vb (xp, xq) j = false) 0 ⟨Nat.zero_le _, fun j hj => by omega⟩ ?_ ?_
    · (repeat' ((try (conv => whnf)); first | (with_reducible first | refine And.intro ?_ ?_ | refine WX.of ?_) | exact zc | ((with_reducible refine VC.mk ?_); exact zw) | (with_reducible first | refine splitT ?_ | refine splitF ?_) | ((with_reducible refine splitM.mk (fun hsm => ?_) (fun hsm => ?_)) <;> (try exact zx)) | ((with_reducible refine splitB.mk (fun h => ?_) (fun h => ?_)) <;> (try simp only [zs, ne_eq] at h) <;> (try simp (disch := omega) only [w64] at h) <;> (try exact zx)) | (with_reducible intro hz; (try exact absurd hz (Nat.succ_ne_zero _)))))
    · intro i ⟨hi, hp⟩
      have hb := amin_b (ftD_sm (up, uq) (seg l s n) vp vb (xp, xq)) i
      have hm0 : i ≠ 0 → smF (amin0 (ftD (up, uq) (seg l s n) vp vb (xp, xq)) i).2.1 (amin0 (ftD (up, uq) (seg l s n) vp vb (xp, xq)) i).2.2 := fun h => by rw [amin0_n (by omega)]; exact hb.2
      by_cases hlt : i < vp.toNat
      · (repeat' ((try (conv => whnf)); first | (with_reducible first | refine And.intro ?_ ?_ | refine WX.of ?_) | exact zc | ((with_reducible refine VC.mk ?_); exact zw) | ((with_reducible refine VC.mk ?_); exact ⟨h1, hsc, hv, ⟨by omega, by omega⟩, hx⟩) | ((with_reducible refine VC.mk ?_); exact ⟨(by assumption), hm0 (by omega)⟩) | ((with_reducible refine splitS (fun v h => (mf_e.2 v h).2) (fun h => ?_) (fun a b h hs => ?_)) <;> (try rw [h])) | (with_reducible first | refine splitT ?_ | refine splitF ?_) | ((with_reducible refine splitM.mk (fun hsm => ?_) (fun hsm => ?_)) <;> (try exact zx)) | ((with_reducible refine splitB.mk (fun h => ?_) (fun h => ?_)) <;> (try simp only [zs, ne_eq] at h) <;> (try simp (disch := omega) only [w64] at h) <;> (try exact zx)) | (with_reducible intro hz; (try exact absurd hz (Nat.succ_ne_zero _)))))
        · rw [if_pos (anyFt h hlt)]
          exact ⟨rfl⟩
        · rename_i hm
          obtain ⟨h3, h4⟩ := mfO_sm hm
          refine ⟨i + 1, by omega, ⟨hlt, upN h3 hp⟩, ?_⟩
          rw [amin0_s, amin_y (.inl (by omega)), h4]
          (repeat' ((try (conv => whnf)); first | (with_reducible first | refine And.intro ?_ ?_ | refine WX.of ?_) | exact zc | ((with_reducible refine VC.mk ?_); exact zw) | (with_reducible first | refine splitT ?_ | refine splitF ?_) | ((with_reducible refine splitM.mk (fun hsm => ?_) (fun hsm => ?_)) <;> (try exact zx)) | ((with_reducible refine splitB.mk (fun h => ?_) (fun h => ?_)) <;> (try simp only [zs, ne_eq] at h) <;> (try simp (disch := omega) only [w64] at h) <;> (try exact zx)) | (with_reducible intro hz; (try exact absurd hz (Nat.succ_ne_zero _)))))
        · rename_i hm h0
          obtain ⟨h3, h4⟩ := mfO_sm hm
          refine ⟨i + 1, by omega, ⟨hlt, upN h3 hp⟩, ?_⟩
          rw [amin0_n (by omega)] at h
          rw [amin0_s, amin_y (.inr (by rw [h4]; exact h)), h4]
          (repeat' ((try (conv => whnf)); first | (with_reducible first | refine And.intro ?_ ?_ | refine WX.of ?_) | exact zc | ((with_reducible refine VC.mk ?_); exact zw) | (with_reducible first | refine splitT ?_ | refine splitF ?_) | ((with_reducible refine splitM.mk (fun hsm => ?_) (fun hsm => ?_)) <;> (try exact zx)) | ((with_reducible refine splitB.mk (fun h => ?_) (fun h => ?_)) <;> (try simp only [zs, ne_eq] at h) <;> (try simp (disch := omega) only [w64] at h) <;> (try exact zx)) | (with_reducible intro hz; (try exact absurd hz (Nat.succ_ne_zero _)))))
        · rename_i hm h0
          obtain ⟨h3, h4⟩ := mfO_sm hm
          refine ⟨i + 1, by omega, ⟨hlt, upN h3 hp⟩, ?_⟩
          rw [amin0_n (by omega)] at h
          rw [amin0_s, amin_n (fun e => e.elim (fun e => absurd e (by omega)) (by rw [h4]; exact Int.not_lt.2 h)), ← amin0_n (by omega)]
          (repeat' ((try (conv => whnf)); first | (with_reducible first | refine And.intro ?_ ?_ | refine WX.of ?_) | exact zc | ((with_reducible refine VC.mk ?_); exact zw) | (with_reducible first | refine splitT ?_ | refine splitF ?_) | ((with_reducible refine splitM.mk (fun hsm => ?_) (fun hsm => ?_)) <;> (try exact zx)) | ((with_reducible refine splitB.mk (fun h => ?_) (fun h => ?_)) <;> (try simp only [zs, ne_eq] at h) <;> (try simp (disch := omega) only [w64] at h) <;> (try exact zx)) | (with_reducible intro hz; (try exact absurd hz (Nat.succ_ne_zero _)))))
      · obtain rfl : i = vp.toNat := by omega
        rw [if_neg (by rw [anyN_no fun j hj => hp j hj]; decide), amin0_n (by omega)]
        (repeat' ((try (conv => whnf)); first | (with_reducible first | refine And.intro ?_ ?_ | refine WX.of ?_) | exact zc | ((with_reducible refine VC.mk ?_); exact zw) | (with_reducible first | refine splitT ?_ | refine splitF ?_) | ((with_reducible refine splitM.mk (fun hsm => ?_) (fun hsm => ?_)) <;> (try exact zx)) | ((with_reducible refine splitB.mk (fun h => ?_) (fun h => ?_)) <;> (try simp only [zs, ne_eq] at h) <;> (try simp (disch := omega) only [w64] at h) <;> (try exact zx)) | (with_reducible intro hz; (try exact absurd hz (Nat.succ_ne_zero _)))))
end Go.Proofs.Ytbmejhabgoimeaa.Eng
set_option linter.unusedVariables false
set_option linter.unusedSimpArgs false
namespace Go.Proofs.Ytbmejhabgoimeaa.Eng
open Go Go.RowKit
set_option maxRecDepth 100000
def s_nearN : Spec := fun args S => match args, S with
  | [.agg [.int .i64 rp, .int .i64 rq], .agg [.int .i64 up, .int .i64 uq]], [] => ⟨smF rp rq ∧ smF up uq ∧ 0 < up, .int .i64 (nrN (rp, rq) (up, uq)), []⟩
  | _, _ => noSpec
theorem ok_l01Near : SpecOk Try.prog 86 s_nearN := by
  intro args S h; unfold s_nearN at h ⊢; (split at h <;> first | exact False.elim h | skip)
  dsimp only at h ⊢
  rename_i rp rq up uq
  obtain ⟨hr, hu, h0⟩ := h
  have hw := near_w (r := (rp, rq)) (u := (up, uq)) hr hu h0
  have hb := near_b (r := (rp, rq)) (u := (up, uq)) hr hu h0
  dsimp only at hw hb
  refine funW tabOk (E := [(109, s_floor)]) ⟨ok_l01Down, trivial⟩ [] (k := 0) (fn := Try.f86) rfl rfl rfl rfl rfl rfl ?_
  (repeat' ((try (conv => whnf)); first | (with_reducible first | refine And.intro ?_ ?_ | refine WX.of ?_) | exact zc | ((with_reducible refine VC.mk ?_); exact zw) | ((with_reducible refine VC.mk ?_); (simp only [hw.1, hw.2]); (simp (disch := omega) only [w64]); omega) | (with_reducible first | refine splitT ?_ | refine splitF ?_) | ((with_reducible refine splitM.mk (fun hsm => ?_) (fun hsm => ?_)) <;> (try exact zx)) | ((with_reducible refine splitB.mk (fun h => ?_) (fun h => ?_)) <;> (try simp only [zs, ne_eq] at h) <;> (try simp (disch := omega) only [w64] at h) <;> (try exact zx)) | (with_reducible intro hz; (try exact absurd hz (Nat.succ_ne_zero _)))))
  all_goals (refine ⟨?_⟩; simp only [hw.1, hw.2]; simp (disch := omega) only [w64]; rfl)
def s_intg : Spec := fun args S => match args, S with
  | [.int .i64 n], [] => ⟨True, .tup [.int .i64 (if -1000000000 ≤ n ∧ n ≤ 1000000000 then n else 0), .int .i64 (if -1000000000 ≤ n ∧ n ≤ 1000000000 then 0 else 3)], []⟩
  | _, _ => noSpec
theorem ok_l01Integer : SpecOk Try.prog 85 s_intg := by
  intro args S h; unfold s_intg at h ⊢; (split at h <;> first | exact False.elim h | skip)
  dsimp only at h ⊢
  rename_i n
  refine funW tabOk (E := [(78, s_within)]) ⟨ok_l00In, trivial⟩ [] (k := 0) (fn := Try.f85) rfl rfl rfl rfl rfl rfl ?_
  (repeat' ((try (conv => whnf)); first | (with_reducible first | refine And.intro ?_ ?_ | refine WX.of ?_) | exact zc | ((with_reducible refine VC.mk ?_); exact zw) | (with_reducible first | refine splitT ?_ | refine splitF ?_) | ((with_reducible refine splitM.mk (fun hsm => ?_) (fun hsm => ?_)) <;> (try exact zx)) | ((with_reducible refine splitB.mk (fun h => ?_) (fun h => ?_)) <;> (try simp only [zs, ne_eq] at h) <;> (try simp (disch := omega) only [w64] at h) <;> (try exact zx)) | (with_reducible intro hz; (try exact absurd hz (Nat.succ_ne_zero _)))))
  · exact ⟨by rw [if_neg (by omega), if_neg (by omega)]⟩
  · exact ⟨by rw [if_pos h, if_pos h]⟩
theorem splitI {n : Int} {A B : Prop} (h1 : ¬ (-1000000000 ≤ n ∧ n ≤ 1000000000) → A) (h2 : (-1000000000 ≤ n ∧ n ≤ 1000000000) → B) : splitB (decide ((if -1000000000 ≤ n ∧ n ≤ 1000000000 then (0 : Int) else 3) ≠ 0)) A B := by
  by_cases h : -1000000000 ≤ n ∧ n ≤ 1000000000
  · rw [if_pos h]; exact ⟨fun e => by simp at e, fun _ => h2 h⟩
  · rw [if_neg h]; exact ⟨fun _ => h1 h, fun e => by simp at e⟩
theorem dv_small {g vp : Int} (hv : 2 ≤ vp ∧ vp ≤ 40) (hg : 0 ≤ g ∧ g ≤ 40) : ∃ v, dvO (g, 1) (vp, 1) = some v := by
  unfold dvO
  rw [if_neg (by dsimp only; omega)]
  have h := redOk_small (p := g * 1) (q := 1 * vp) (by omega) (by omega)
  exact ⟨_, rO_s h⟩
def s_l02ReadV : Spec := fun args S => match args, S with
  | [.ptr 0 0 0, .ptr 1 0 3, .agg [.int .i64 xp, .int .i64 xq]], [.box [.int .i64 up, .int .i64 uq, .sl 2 s n x] true false, .box [.int .i64 ap, .int .i64 aq, .sl 3 s' n' x', .int .i64 vp, .bool vb, .int .i64 gp, .int .i64 gq, .sl 4 t m y] true false, .arr (.prod (.int .i64) (.int .i64)) l 2 wr, .arr (.prod (.int .i64) (.int .i64)) l' 2 wr', .arr (.prod .str (.prod (.prod (.int .i64) (.int .i64)) (.prod (.int .i64) (.int .i64)))) T 5 wT] => ⟨s + n ≤ l.length ∧ scB up uq (seg l s n) = true ∧ (2 ≤ vp ∧ vp ≤ 40) ∧ smF xp xq, .tup [.agg [.int .i64 (eV (0, 0) (readE (up, uq) (seg l s n) vp vb (xp, xq))).1, .int .i64 (eV (0, 0) (readE (up, uq) (seg l s n) vp vb (xp, xq))).2], .int .i64 (eC (readE (up, uq) (seg l s n) vp vb (xp, xq)))], [.box [.int .i64 up, .int .i64 uq, .sl 2 s n x] true false, .box [.int .i64 ap, .int .i64 aq, .sl 3 s' n' x', .int .i64 vp, .bool vb, .int .i64 gp, .int .i64 gq, .sl 4 t m y] true false, .arr (.prod (.int .i64) (.int .i64)) l 2 wr, .arr (.prod (.int .i64) (.int .i64)) l' 2 wr', .arr (.prod .str (.prod (.prod (.int .i64) (.int .i64)) (.prod (.int .i64) (.int .i64)))) T 5 wT]⟩
  | _, _ => noSpec
/-- The line that fits is known. -/
def s_fitP (f : Int) : Spec := fun args S => match args, S with
  | [.ptr 0 0 0, .ptr 1 0 3, .agg [.int .i64 xp, .int .i64 xq]], [.box [.int .i64 up, .int .i64 uq, .sl 2 s n x] true false, .box [.int .i64 ap, .int .i64 aq, .sl 3 s' n' x', .int .i64 vp, .bool vb, .int .i64 gp, .int .i64 gq, .sl 4 t m y] true false, .arr (.prod (.int .i64) (.int .i64)) l 2 wr, .arr (.prod (.int .i64) (.int .i64)) l' 2 wr', .arr (.prod .str (.prod (.prod (.int .i64) (.int .i64)) (.prod (.int .i64) (.int .i64)))) T 5 wT] => ⟨(s + n ≤ l.length ∧ scB up uq (seg l s n) = true ∧ (2 ≤ vp ∧ vp ≤ 40) ∧ smF xp xq) ∧ fitE (up, uq) (seg l s n) vp vb (xp, xq) = .ok f, .tup [.int .i64 f, .int .i64 0], [.box [.int .i64 up, .int .i64 uq, .sl 2 s n x] true false, .box [.int .i64 ap, .int .i64 aq, .sl 3 s' n' x', .int .i64 vp, .bool vb, .int .i64 gp, .int .i64 gq, .sl 4 t m y] true false, .arr (.prod (.int .i64) (.int .i64)) l 2 wr, .arr (.prod (.int .i64) (.int .i64)) l' 2 wr', .arr (.prod .str (.prod (.prod (.int .i64) (.int .i64)) (.prod (.int .i64) (.int .i64)))) T 5 wT]⟩
  | _, _ => noSpec
theorem ok_fitP (f : Int) : SpecOk Try.prog 84 (s_fitP f) := by
  intro args S h; unfold s_fitP at h ⊢; (split at h <;> first | exact False.elim h | skip)
  dsimp only at h ⊢
  rename_i xp xq up uq s n x ap aq s' n' x' vp vb gp gq t m y l wr l' wr' T wT
  have h2 := ok_l02FitV [.ptr 0 0 0, .ptr 1 0 3, .agg [.int .i64 xp, .int .i64 xq]] [.box [.int .i64 up, .int .i64 uq, .sl 2 s n x] true false, .box [.int .i64 ap, .int .i64 aq, .sl 3 s' n' x', .int .i64 vp, .bool vb, .int .i64 gp, .int .i64 gq, .sl 4 t m y] true false, .arr (.prod (.int .i64) (.int .i64)) l 2 wr, .arr (.prod (.int .i64) (.int .i64)) l' 2 wr', .arr (.prod .str (.prod (.prod (.int .i64) (.int .i64)) (.prod (.int .i64) (.int .i64)))) T 5 wT] h.1
  simp only [s_l02FitV, h.2, eV, eC] at h2
  exact h2
def s_divP (v : FrT) : Spec := fun args S => match args, S with
  | [.agg [.int .i64 p, .int .i64 q], .agg [.int .i64 p', .int .i64 q']], [] => ⟨(smF p q ∧ smF p' q' ∧ p' ≠ 0) ∧ dvO (p, q) (p', q') = some v, .tup [.agg [.int .i64 v.1, .int .i64 v.2], .int .i64 0], []⟩
  | _, _ => noSpec
theorem ok_divP (v : FrT) : SpecOk Try.prog 49 (s_divP v) := by
  intro args S h; unfold s_divP at h ⊢; (split at h <;> first | exact False.elim h | skip)
  dsimp only at h ⊢
  rename_i p q p' q'
  have h2 := ok_l01DivZ [.agg [.int .i64 p, .int .i64 q], .agg [.int .i64 p', .int .i64 q']] [] h.1
  simp only [s_divZ, h.2, zv_s, oC, Option.isSome_some, if_true] at h2
  exact h2
theorem rv_0 {u : FrT} {vp : Int} {vb : Bool} {x : FrT} {f : Int} {sh : FrT} (hs : dvO (fln vp vb f, 1) (vp, 1) = some sh) : rvO u vp vb x f = (muO sh u).bind fun p => (sbO x p).bind fun r => if -1000000000 ≤ nrN r u ∧ nrN r u ≤ 1000000000 then (muO (nrN r u, 1) u).bind fun w => adO p w else none := by
  unfold rvO; rw [hs]; rfl
theorem ofO_tup (o : Option FrT) : SV.tup [.agg [.int .i64 (zv o).1, .int .i64 (zv o).2], .int .i64 (oC o)] = SV.tup [.agg [.int .i64 (eV (0, 0) (ofO o)).1, .int .i64 (eV (0, 0) (ofO o)).2], .int .i64 (eC (ofO o))] := by cases o <;> rfl
attribute [local irreducible] sbO muO adO dvO mkV fitE rvO nrN in
set_option maxHeartbeats 3200000 in
theorem ok_l02ReadV : SpecOk Try.prog 48 s_l02ReadV := by
  intro args S h; unfold s_l02ReadV at h ⊢; (split at h <;> first | exact False.elim h | skip)
  dsimp only at h ⊢
  rename_i xp xq up uq s n x ap aq s' n' x' vp vb gp gq t m y l wr l' wr' T wT
  have hq := h
  obtain ⟨h1, hsc, hv, hx⟩ := h
  have hsz := sc_sz hsc
  have hu := smF_ok hsz.1
  have hup := hsz.2.1.1
  unfold readE
  cases hf : fitE (up, uq) (seg l s n) vp vb (xp, xq) with
  | error c =>
    have hc : c ≠ 0 := enz_fit _ _ _ _ _ c hf
    refine funW tabOk (E := [(84, s_l02FitV)]) ⟨ok_l02FitV, trivial⟩ [(6, [(5, 0), (11, 0), (11, 1), (11, 2)]), (7, [(9, 0)]), (16, [(5, 0), (10, 0), (10, 1)])] (k := 5) (fn := Try.f48) rfl rfl rfl rfl rfl rfl ?_
    (repeat' ((try (conv => whnf)); first | (with_reducible first | refine And.intro ?_ ?_ | refine WX.of ?_) | exact zc | ((with_reducible refine VC.mk ?_); exact zw) | ((with_reducible refine VC.mk ?_); exact hq) | ((with_reducible refine splitT_of ?_ ?_); (focus (rw [hf]; exact decide_eq_true hc))) | (with_reducible first | refine splitT ?_ | refine splitF ?_) | ((with_reducible refine splitM.mk (fun hsm => ?_) (fun hsm => ?_)) <;> (try exact zx)) | ((with_reducible refine splitB.mk (fun h => ?_) (fun h => ?_)) <;> (try simp only [zs, ne_eq] at h) <;> (try simp (disch := omega) only [w64] at h) <;> (try exact zx)) | (with_reducible intro hz; (try exact absurd hz (Nat.succ_ne_zero _)))))
    all_goals (rw [hf]; exact ⟨rfl⟩)
  | ok f =>
    have hfb := fit_b hv.1 hf
    have hw3 : IntKind.i64.wrap (vp - f) = vp - f := w64 (by omega)
    have hg : 0 ≤ fln vp vb f ∧ fln vp vb f ≤ 40 := by unfold fln; split <;> omega
    obtain ⟨⟨sp, sq⟩, hsh⟩ := dv_small hv hg
    have hshs : smF sp sq := by have := smF_dv (fln vp vb f, 1) (vp, 1); rw [hsh] at this; exact this
    have hvs : smF vp 1 := smF_1 (by omega)
    have ht1 : vb = true → ¬ f = 0 → dvO (IntKind.i64.wrap (vp - f), 1) (vp, 1) = some (sp, sq) := fun a b => by rw [← hsh, hw3]; unfold fln; rw [if_pos ⟨a, b⟩]
    have ht2 : f = 0 → dvO (f, 1) (vp, 1) = some (sp, sq) := fun a => by rw [← hsh]; unfold fln; rw [if_neg (fun e => e.2 a)]
    have ht3 : vb = false → dvO (f, 1) (vp, 1) = some (sp, sq) := fun a => by rw [← hsh]; unfold fln; rw [if_neg (fun e => by rw [a] at e; exact absurd e.1 (by decide))]
    have hr := rv_0 (u := (up, uq)) (x := (xp, xq)) hsh
    show RunsS _ _ _ _ (.tup [.agg [.int .i64 (eV (0, 0) (ofO (rvO (up, uq) vp vb (xp, xq) f))).1, .int .i64 (eV (0, 0) (ofO (rvO (up, uq) vp vb (xp, xq) f))).2], .int .i64 (eC (ofO (rvO (up, uq) vp vb (xp, xq) f)))]) _
    rw [hr]
    refine funW tabOk (E := [(84, (s_fitP f)), (46, s_num), (49, (s_divP (sp, sq))), (81, s_mulZ), (45, s_subZ), (86, s_nearN), (85, s_intg), (82, s_addZ)]) ⟨(ok_fitP f), ok_l01Whole, (ok_divP (sp, sq)), ok_l01MulZ, ok_l01SubZ, ok_l01Near, ok_l01Integer, ok_l01AddZ, trivial⟩ [(6, [(5, 0), (11, 0), (11, 1), (11, 2)]), (7, [(9, 0)]), (16, [(5, 0), (10, 0), (10, 1)])] (k := 5) (fn := Try.f48) rfl rfl rfl rfl rfl rfl ?_
    (repeat' ((try (conv => whnf)); first | (with_reducible first | refine And.intro ?_ ?_ | refine WX.of ?_) | exact zc | ((with_reducible refine VC.mk ?_); exact zw) | ((with_reducible refine VC.mk ?_); exact ⟨hq, hf⟩) | ((with_reducible refine VC.mk ?_); exact ⟨⟨smF_1 (by rw [hw3]; omega), hvs, (by omega)⟩, ht1 (by assumption) (by assumption)⟩) | ((with_reducible refine VC.mk ?_); exact ⟨⟨smF_1 (by omega), hvs, (by omega)⟩, ht2 (by assumption)⟩) | ((with_reducible refine VC.mk ?_); exact ⟨⟨smF_1 (by omega), hvs, (by omega)⟩, ht3 (by assumption)⟩) | ((with_reducible refine VC.mk ?_); exact ⟨hshs, hu⟩) | ((with_reducible refine VC.mk ?_); exact ⟨hx, (by assumption)⟩) | ((with_reducible refine VC.mk ?_); exact ⟨(by assumption), hu, hup⟩) | ((with_reducible refine VC.mk ?_); exact ⟨smF_1 (by assumption), hu⟩) | ((with_reducible refine VC.mk ?_); exact ⟨(by assumption), (by assumption)⟩) | ((with_reducible refine splitO (by first  |  exact okO_sb _ _  |  exact okO_mu _ _  |  exact okO_ad _ _  |  exact okO_dv _ _  |  exact okO_bind _ _ fun _ => okO_ad _ _  |  exact okO_sb _ _) (fun h => ?_) (fun a b h hs => ?_)) <;> (try rw [h]) <;> (try simp only [zv_s] at h) <;> (try dsimp only at h)) | ((with_reducible refine splitI (fun h => ?_) (fun h => ?_)) <;> (repeat (first  |  rw [if_pos h]  |  rw [if_neg h])) <;> (try simp only [zv_s] at h)) | (with_reducible first | refine splitT ?_ | refine splitF ?_) | ((with_reducible refine splitM.mk (fun hsm => ?_) (fun hsm => ?_)) <;> (try exact zx)) | ((with_reducible refine splitB.mk (fun h => ?_) (fun h => ?_)) <;> (try simp only [zs, ne_eq] at h) <;> (try simp (disch := omega) only [w64] at h) <;> (try exact zx)) | (with_reducible intro hz; (try exact absurd hz (Nat.succ_ne_zero _)))))
    all_goals (refine ⟨?_⟩; simp only [zv_s] at *; (try simp only [*, Option.bind_some, Option.bind_none, and_self, if_true, if_false]); first | done | rfl | exact ofO_tup _)
theorem any_snoc {α : Type} {p : α → Bool} {L : List α} {i : Nat} {a : α} (ha : L[i]? = some a) : (L.take (i + 1)).any p = ((L.take i).any p || p a) := by
  rw [List.take_add_one, ha, List.any_append]; simp
theorem app_0 {α : Type} {D : List α} {w : α} (h : D[0]? = some w) : seg [w] 0 1 = D.take 1 := by
  cases D with
  | nil => simp at h
  | cons a D => simp at h; subst h; simp [seg]
theorem wm_len (f : FrT) (E : List FrT) : (wmE f E).length = E.length := by unfold wmE; simp
theorem wm_get {f : FrT} {E : List FrT} {i : Nat} {a : FrT} (h : E[i]? = some a) : (wmE f E)[i]? = some (tv (muO a f)) := by unfold wmE; rw [List.getElem?_map, h]; rfl
theorem warm_ok {u y w : FrT} {E E' : List FrT} (h : warmE u E y = .ok (w, E')) : ¬ 10 * (y.1.natAbs : Int) > y.2 ∧ ∃ f, adO (1, 1) y = some f ∧ muO u f = some w ∧ wmX f E = false ∧ scB w.1 w.2 E' = true ∧ wmE f E = E' := by
  unfold warmE at h
  split at h
  · cases h
  · rename_i h0
    refine ⟨h0, ?_⟩
    cases h1 : wmO u E y with
    | none => rw [h1] at h; cases h
    | some v =>
      rw [h1] at h
      cases h
      unfold wmO at h1
      cases h2 : adO (1, 1) y with
      | none => rw [h2] at h1; simp at h1
      | some f =>
        rw [h2] at h1
        simp only [Option.bind_some] at h1
        cases h3 : muO u f with
        | none => rw [h3] at h1; simp at h1
        | some w2 =>
          rw [h3] at h1
          simp only [Option.bind_some] at h1
          split at h1
          · rename_i h4
            obtain ⟨rfl, rfl⟩ := Prod.mk.inj (Option.some.inj h1)
            exact ⟨f, rfl, h3, h4.1, h4.2, rfl⟩
          · simp at h1
def s_addP (v : FrT) : Spec := fun args S => match args, S with
  | [.ptr b 0 0, .agg [.int .i64 p, .int .i64 q], .agg [.int .i64 p', .int .i64 q']], [.arr .bool [bad] 0 true] => ⟨(b = 0 ∧ smF p q ∧ smF p' q') ∧ adO (p, q) (p', q') = some v, .agg [.int .i64 v.1, .int .i64 v.2], [.arr .bool [bad] 0 true]⟩
  | _, _ => noSpec
theorem ok_addP (v : FrT) : SpecOk Try.prog 53 (s_addP v) := by
  intro args S h; unfold s_addP at h ⊢; (split at h <;> first | exact False.elim h | skip)
  dsimp only at h ⊢
  rename_i b p q p' q' bad
  have h2 := ok_addO [.ptr b 0 0, .agg [.int .i64 p, .int .i64 q], .agg [.int .i64 p', .int .i64 q']] [.arr .bool [bad] 0 true] h.1
  simp only [s_addO, h.2, tv, Option.getD_some, Option.isSome_some, Bool.not_true, Bool.or_false] at h2
  exact h2
/-- A scale that is warm. -/
def s_warm1 (w : FrT) (E' : List FrT) : Spec := fun args S => match args, S with
  | [.agg [.int .i64 up, .int .i64 uq, .sl 0 s n x], .agg [.int .i64 yp, .int .i64 yq]], [.arr (.prod (.int .i64) (.int .i64)) l 2 wr] => ⟨(s + n ≤ l.length ∧ scB up uq (seg l s n) = true ∧ fOk yp yq = true) ∧ warmE (up, uq) (seg l s n) (yp, yq) = .ok (w, E'), .tup [.agg [.int .i64 w.1, .int .i64 w.2, .sl 1 0 n 0], .int .i64 0], [.arr (.prod (.int .i64) (.int .i64)) l 2 wr, .arr (.prod (.int .i64) (.int .i64)) E' 2 true]⟩
  | _, _ => noSpec
def s_warm0 (c : Int) : Spec := fun args S => match args, S with
  | [.agg [.int .i64 up, .int .i64 uq, .sl 0 s n x], .agg [.int .i64 yp, .int .i64 yq]], [.arr (.prod (.int .i64) (.int .i64)) l 2 wr] => ⟨(s + n ≤ l.length ∧ scB up uq (seg l s n) = true ∧ fOk yp yq = true) ∧ warmE (up, uq) (seg l s n) (yp, yq) = .error c, .tup [.agg [.int .i64 0, .int .i64 0, .nils], .int .i64 c], [.arr (.prod (.int .i64) (.int .i64)) l 2 wr]⟩
  | _, _ => noSpec
theorem cmp10 {p q : Int} (hq : smF p q) : 0 < cmpF (p.natAbs : Int) q 1 10 ↔ 10 * (p.natAbs : Int) > q := by rw [cmpF_gt]; unfold smF at hq; omega
attribute [local irreducible] sbO muO adO dvO mkV in
set_option maxHeartbeats 3200000 in
theorem ok_warm1I (w : FrT) (E' : List FrT) : SpecOk Try.prog 27 (s_warm1 w E') := by
  intro args S h; unfold s_warm1 at h ⊢; (split at h <;> first | exact False.elim h | skip)
  dsimp only at h ⊢
  rename_i up uq s n x yp yq l wr
  obtain ⟨⟨h1, hsc, hy⟩, hw⟩ := h
  have hL := seg_len h1
  have hsz := sc_sz hsc
  rw [hL] at hsz
  have hel := sc_el hsc
  have hys := smF_ok hy
  obtain ⟨h0, ⟨fp, fq⟩, hf, hm, hX, hs', hE⟩ := warm_ok hw
  have hfs : smF fp fq := by have := smF_ad (1, 1) (yp, yq); rw [hf] at this; exact this
  have hc := cmp10 hys
  have hs1 : smF (yp.natAbs : Int) yq := by unfold smF at hys ⊢; omega
  have hs2 : smF 1 10 := by unfold smF; omega
  have hlen : (wmE (fp, fq) (seg l s n)).length = n := by rw [wm_len, hL]
  have hE2 : seg E' 0 n = E' := seg_full (by rw [← hE]; exact hlen)
  have hnc : decide (0 < cmpF (yp.natAbs : Int) yq 1 10) = false := decide_eq_false (by rw [hc]; exact h0)
  refine funW tabOk (E := [(56, s_vScale), (37, s_fOk), (57, s_size), (38, s_cmp), (26, s_num), (53, (s_addP (fp, fq))), (54, s_mulO)]) ⟨ok_ValidScale, ok_ValidFrac, ok_size, ok_compare, ok_num, (ok_addP (fp, fq)), ok_mulO, trivial⟩ [(6, [(2, 0), (4, 0), (4, 1)]), (11, [(1, 1), (1, 2)])] (k := 1) (fn := Try.f27) rfl rfl rfl rfl rfl rfl ?_
  (repeat' ((try (conv => whnf)); first | (with_reducible first | refine And.intro ?_ ?_ | refine WX.of ?_) | exact zc | ((with_reducible refine VC.mk ?_); exact zw) | ((with_reducible refine splitT_of ?_ ?_); (focus (simp only [hsc, hy, hnc, Bool.not_true, Bool.not_false, decide_true, decide_false]; done))) | ((with_reducible refine splitF_of ?_ ?_); (focus (simp only [hsc, hy, hnc, Bool.not_true, Bool.not_false, decide_true, decide_false]; done))) | ((with_reducible refine VC.mk ?_); exact hys) | ((with_reducible refine VC.mk ?_); exact ⟨hs1, hs2⟩) | ((with_reducible refine VC.mk ?_); exact ⟨⟨rfl, smF_1 (by omega), hys⟩, hf⟩) | ((with_reducible refine VC.mk ?_); exact ⟨rfl, smF_ok hsz.1, hfs⟩) | (with_reducible first | refine splitT ?_ | refine splitF ?_) | ((with_reducible refine splitM.mk (fun hsm => ?_) (fun hsm => ?_)) <;> (try exact zx)) | ((with_reducible refine splitB.mk (fun h => ?_) (fun h => ?_)) <;> (try simp only [zs, ne_eq] at h) <;> (try simp (disch := omega) only [w64] at h) <;> (try exact zx)) | (with_reducible intro hz; (try exact absurd hz (Nat.succ_ne_zero _)))))
  refine loopW tabOk (E := [(56, s_vScale), (37, s_fOk), (57, s_size), (38, s_cmp), (26, s_num), (53, (s_addP (fp, fq))), (54, s_mulO)]) ⟨ok_ValidScale, ok_ValidFrac, ok_size, ok_compare, ok_num, (ok_addP (fp, fq)), ok_mulO, trivial⟩ [(6, [(2, 0), (4, 0), (4, 1)]), (11, [(1, 1), (1, 2)])] (σ := Option Nat) (fun o => match o with
    | none => [(4, .ptr 1 0 0), (6, .ptr 2 0 0), (7, .ptr 3 0 0), (8, .ptr 4 0 0), (41, .sl 0 s n x), (42, .int .i64 n), (43, .int .i64 0)]
    | some i => [(4, .ptr 1 0 0), (6, .ptr 2 0 0), (7, .ptr 3 0 0), (8, .ptr 4 0 0), (41, .sl 0 s n x), (42, .int .i64 n), (43, .int .i64 i)]) (fun o => match o with
    | none => [.arr (.prod (.int .i64) (.int .i64)) l 2 wr, .box [.int .i64 0, .int .i64 0, .nils] true false, .arr .bool [false] 0 true, .arr (.prod (.int .i64) (.int .i64)) [(fp, fq)] 0 true, .box [.int .i64 w.1, .int .i64 w.2, .nils] true false]
    | some i => [.arr (.prod (.int .i64) (.int .i64)) l 2 wr, .box [.int .i64 0, .int .i64 0, .nils] true false, .arr .bool [wmX (fp, fq) ((seg l s n).take i)] 0 true, .arr (.prod (.int .i64) (.int .i64)) [(fp, fq)] 0 true, .box [.int .i64 w.1, .int .i64 w.2, .sl 5 0 i 0] true false, .arr (.prod (.int .i64) (.int .i64)) ((wmE (fp, fq) (seg l s n)).take i) 2 true]) (fun o => match o with | none => n + 1 | some i => n - i) (fun o => match o with | none => True | some i => 1 ≤ i ∧ i ≤ n) none trivial ?_ ?_
  · (repeat' ((try (conv => whnf)); first | (with_reducible first | refine And.intro ?_ ?_ | refine WX.of ?_) | exact zc | ((with_reducible refine VC.mk ?_); exact zw) | (with_reducible first | refine splitT ?_ | refine splitF ?_) | ((with_reducible refine splitM.mk (fun hsm => ?_) (fun hsm => ?_)) <;> (try exact zx)) | ((with_reducible refine splitB.mk (fun h => ?_) (fun h => ?_)) <;> (try simp only [zs, ne_eq] at h) <;> (try simp (disch := omega) only [w64] at h) <;> (try exact zx)) | (with_reducible intro hz; (try exact absurd hz (Nat.succ_ne_zero _)))))
    all_goals exact ⟨by simp [hm, tv]⟩
  · intro o hi
    cases o with
    | none =>
      obtain ⟨⟨p, q⟩, ha⟩ := get_some (l := seg l s n) (i := 0) (by omega)
      have hw2 := wm_get (f := (fp, fq)) ha
      (repeat' ((try (conv => whnf)); first | (with_reducible first | refine And.intro ?_ ?_ | refine WX.of ?_) | exact zc | ((with_reducible refine VC.mk ?_); exact zw) | refine atL_i ha ?_ | ((with_reducible refine VC.mk ?_); exact ⟨rfl, hel _ _ ha, hfs⟩) | (with_reducible first | refine splitT ?_ | refine splitF ?_) | ((with_reducible refine splitM.mk (fun hsm => ?_) (fun hsm => ?_)) <;> (try exact zx)) | ((with_reducible refine splitB.mk (fun h => ?_) (fun h => ?_)) <;> (try simp only [zs, ne_eq] at h) <;> (try simp (disch := omega) only [w64] at h) <;> (try exact zx)) | (with_reducible intro hz; (try exact absurd hz (Nat.succ_ne_zero _)))))
      refine ⟨some 1, by dsimp only; omega, ⟨by omega, by omega⟩, ?_⟩
      (repeat' ((try (conv => whnf)); first | (with_reducible first | refine And.intro ?_ ?_ | refine WX.of ?_) | exact zc | ((with_reducible refine VC.mk ?_); exact zw) | (with_reducible first | refine splitT ?_ | refine splitF ?_) | ((with_reducible refine splitM.mk (fun hsm => ?_) (fun hsm => ?_)) <;> (try exact zx)) | ((with_reducible refine splitB.mk (fun h => ?_) (fun h => ?_)) <;> (try simp only [zs, ne_eq] at h) <;> (try simp (disch := omega) only [w64] at h) <;> (try exact zx)) | (with_reducible intro hz; (try exact absurd hz (Nat.succ_ne_zero _)))))
      · exact ⟨by unfold wmX; rw [show (1 : Nat) = 0 + 1 from rfl, any_snoc ha]; simp⟩
      · exact ⟨by rw [app_0 hw2]⟩
    | some i =>
      dsimp only at hi ⊢
      have hlen2 : ((wmE (fp, fq) (seg l s n)).take i).length = i := by rw [List.length_take, hlen]; omega
      by_cases hlt : i < n
      · obtain ⟨⟨p, q⟩, ha⟩ := get_some (l := seg l s n) (i := i) (by omega)
        have hw2 := wm_get (f := (fp, fq)) ha
        (repeat' ((try (conv => whnf)); first | (with_reducible first | refine And.intro ?_ ?_ | refine WX.of ?_) | exact zc | ((with_reducible refine VC.mk ?_); exact zw) | refine atL_i ha ?_ | ((with_reducible refine VC.mk ?_); exact ⟨rfl, hel _ _ ha, hfs⟩) | (with_reducible first | refine splitT ?_ | refine splitF ?_) | ((with_reducible refine splitM.mk (fun hsm => ?_) (fun hsm => ?_)) <;> (try exact zx)) | ((with_reducible refine splitB.mk (fun h => ?_) (fun h => ?_)) <;> (try simp only [zs, ne_eq] at h) <;> (try simp (disch := omega) only [w64] at h) <;> (try exact zx)) | (with_reducible intro hz; (try exact absurd hz (Nat.succ_ne_zero _)))))
        refine ⟨some (i + 1), by dsimp only; omega, ⟨by omega, by omega⟩, ?_⟩
        (repeat' ((try (conv => whnf)); first | (with_reducible first | refine And.intro ?_ ?_ | refine WX.of ?_) | exact zc | ((with_reducible refine VC.mk ?_); exact zw) | (with_reducible first | refine splitT ?_ | refine splitF ?_) | ((with_reducible refine splitM.mk (fun hsm => ?_) (fun hsm => ?_)) <;> (try exact zx)) | ((with_reducible refine splitB.mk (fun h => ?_) (fun h => ?_)) <;> (try simp only [zs, ne_eq] at h) <;> (try simp (disch := omega) only [w64] at h) <;> (try exact zx)) | (with_reducible intro hz; (try exact absurd hz (Nat.succ_ne_zero _)))))
        · exact ⟨by unfold wmX; rw [any_snoc ha]⟩
        · exact ⟨app_take hw2⟩
      · obtain rfl : i = n := by omega
        rw [List.take_of_length_le (by omega), List.take_of_length_le (by omega), hX, hE]
        have hE3 : E'.length = i := by rw [← hE]; exact hlen
        (repeat' ((try (conv => whnf)); first | (with_reducible first | refine And.intro ?_ ?_ | refine WX.of ?_) | exact zc | ((with_reducible refine VC.mk ?_); exact zw) | ((with_reducible refine splitT_of ?_ ?_); (focus (simp only [hE2, hs', Bool.not_true, Bool.not_false, decide_true, decide_false]; done))) | ((with_reducible refine splitF_of ?_ ?_); (focus (simp only [hE2, hs', Bool.not_true, Bool.not_false, decide_true, decide_false]; done))) | ((with_reducible refine VC.mk ?_); exact ⟨by omega, by omega⟩) | (with_reducible first | refine splitT ?_ | refine splitF ?_) | ((with_reducible refine splitM.mk (fun hsm => ?_) (fun hsm => ?_)) <;> (try exact zx)) | ((with_reducible refine splitB.mk (fun h => ?_) (fun h => ?_)) <;> (try simp only [zs, ne_eq] at h) <;> (try simp (disch := omega) only [w64] at h) <;> (try exact zx)) | (with_reducible intro hz; (try exact absurd hz (Nat.succ_ne_zero _)))))
def s_addQ (v : FrT) (k : Bool) : Spec := fun args S => match args, S with
  | [.ptr b 0 0, .agg [.int .i64 p, .int .i64 q], .agg [.int .i64 p', .int .i64 q']], [.arr .bool [bad] 0 true] => ⟨(b = 0 ∧ smF p q ∧ smF p' q') ∧ tv (adO (p, q) (p', q')) = v ∧ (adO (p, q) (p', q')).isSome = k, .agg [.int .i64 v.1, .int .i64 v.2], [.arr .bool [bad || !k] 0 true]⟩
  | _, _ => noSpec
theorem ok_addQ (v : FrT) (k : Bool) : SpecOk Try.prog 53 (s_addQ v k) := by
  intro args S h; unfold s_addQ at h ⊢; (split at h <;> first | exact False.elim h | skip)
  dsimp only at h ⊢
  rename_i b p q p' q' bad
  have h2 := ok_addO [.ptr b 0 0, .agg [.int .i64 p, .int .i64 q], .agg [.int .i64 p', .int .i64 q']] [.arr .bool [bad] 0 true] h.1
  simp only [s_addO, h.2.1, h.2.2] at h2
  exact h2
theorem warm_no {u y : FrT} {E : List FrT} {c : Int} (h : warmE u E y = .error c) (h0 : ¬ 10 * (y.1.natAbs : Int) > y.2) : c = 3 ∧ wmO u E y = none := by
  unfold warmE at h
  rw [if_neg h0] at h
  cases h1 : wmO u E y with
  | none => rw [h1] at h; cases h; exact ⟨rfl, rfl⟩
  | some v => rw [h1] at h; cases h
theorem warm_far {u y : FrT} {E : List FrT} {c : Int} (h : warmE u E y = .error c) (h0 : 10 * (y.1.natAbs : Int) > y.2) : c = 2 := by
  unfold warmE at h
  rw [if_pos h0] at h
  cases h; rfl
attribute [local irreducible] sbO muO adO dvO mkV in
set_option maxHeartbeats 3200000 in
theorem ok_warm0I (c : Int) : SpecOk Try.prog 27 (s_warm0 c) := by
  intro args S h; unfold s_warm0 at h ⊢; (split at h <;> first | exact False.elim h | skip)
  dsimp only at h ⊢
  rename_i up uq s n x yp yq l wr
  obtain ⟨⟨h1, hsc, hy⟩, hw⟩ := h
  have hL := seg_len h1
  have hsz := sc_sz hsc
  rw [hL] at hsz
  have hel := sc_el hsc
  have hys := smF_ok hy
  have hc := cmp10 hys
  have hs1 : smF (yp.natAbs : Int) yq := by unfold smF at hys ⊢; omega
  have hs2 : smF 1 10 := by unfold smF; omega
  by_cases h0 : 10 * (yp.natAbs : Int) > yq
  · obtain rfl := warm_far hw h0
    have hnc : decide (0 < cmpF (yp.natAbs : Int) yq 1 10) = true := decide_eq_true (hc.2 h0)
    refine funW tabOk (E := [(56, s_vScale), (37, s_fOk), (57, s_size), (38, s_cmp)]) ⟨ok_ValidScale, ok_ValidFrac, ok_size, ok_compare, trivial⟩ [(6, [(2, 0), (4, 0), (4, 1)]), (11, [(1, 1), (1, 2)])] (k := 1) (fn := Try.f27) rfl rfl rfl rfl rfl rfl ?_
    (repeat' ((try (conv => whnf)); first | (with_reducible first | refine And.intro ?_ ?_ | refine WX.of ?_) | exact zc | ((with_reducible refine VC.mk ?_); exact zw) | ((with_reducible refine splitT_of ?_ ?_); (focus (simp only [hsc, hy, hnc, Bool.not_true, Bool.not_false, decide_true, decide_false]; done))) | ((with_reducible refine splitF_of ?_ ?_); (focus (simp only [hsc, hy, hnc, Bool.not_true, Bool.not_false, decide_true, decide_false]; done))) | ((with_reducible refine VC.mk ?_); exact hys) | ((with_reducible refine VC.mk ?_); exact ⟨hs1, hs2⟩) | (with_reducible first | refine splitT ?_ | refine splitF ?_) | ((with_reducible refine splitM.mk (fun hsm => ?_) (fun hsm => ?_)) <;> (try exact zx)) | ((with_reducible refine splitB.mk (fun h => ?_) (fun h => ?_)) <;> (try simp only [zs, ne_eq] at h) <;> (try simp (disch := omega) only [w64] at h) <;> (try exact zx)) | (with_reducible intro hz; (try exact absurd hz (Nat.succ_ne_zero _)))))
  · obtain ⟨rfl, hno⟩ := warm_no hw h0
    have hwm := wm_e (up, uq) (seg l s n) (yp, yq)
    obtain ⟨⟨fp, fq⟩, hF⟩ : ∃ v, v = tv (adO (1, 1) (yp, yq)) := ⟨_, rfl⟩
    obtain ⟨⟨w1, w2⟩, hW⟩ : ∃ v, v = tv (muO (up, uq) (fp, fq)) := ⟨_, rfl⟩
    obtain ⟨k, hk⟩ : ∃ k, k = (adO (1, 1) (yp, yq)).isSome := ⟨_, rfl⟩
    obtain ⟨k2, hk2⟩ : ∃ k, k = (muO (up, uq) (fp, fq)).isSome := ⟨_, rfl⟩
    rw [hno, ← hF, ← hW, ← hk, ← hk2] at hwm
    have hbad := hwm.1
    simp only [Option.isSome_none, Bool.not_false] at hbad
    have hfs : smF fp fq := by have := smF_ad (1, 1) (yp, yq); rw [← hF] at this; exact this
    have hlen : (wmE (fp, fq) (seg l s n)).length = n := by rw [wm_len, hL]
    have hE2 : seg (wmE (fp, fq) (seg l s n)) 0 n = wmE (fp, fq) (seg l s n) := seg_full hlen
    have hnc : decide (0 < cmpF (yp.natAbs : Int) yq 1 10) = false := decide_eq_false (by rw [hc]; exact h0)
    refine funW tabOk (E := [(56, s_vScale), (37, s_fOk), (57, s_size), (38, s_cmp), (26, s_num), (53, (s_addQ (fp, fq) k)), (54, s_mulO)]) ⟨ok_ValidScale, ok_ValidFrac, ok_size, ok_compare, ok_num, (ok_addQ (fp, fq) k), ok_mulO, trivial⟩ [(6, [(2, 0), (4, 0), (4, 1)]), (11, [(1, 1), (1, 2)])] (k := 1) (fn := Try.f27) rfl rfl rfl rfl rfl rfl ?_
    (repeat' ((try (conv => whnf)); first | (with_reducible first | refine And.intro ?_ ?_ | refine WX.of ?_) | exact zc | ((with_reducible refine VC.mk ?_); exact zw) | ((with_reducible refine splitT_of ?_ ?_); (focus (simp only [hsc, hy, hnc, Bool.not_true, Bool.not_false, decide_true, decide_false]; done))) | ((with_reducible refine splitF_of ?_ ?_); (focus (simp only [hsc, hy, hnc, Bool.not_true, Bool.not_false, decide_true, decide_false]; done))) | ((with_reducible refine VC.mk ?_); exact hys) | ((with_reducible refine VC.mk ?_); exact ⟨hs1, hs2⟩) | ((with_reducible refine VC.mk ?_); exact ⟨⟨rfl, smF_1 (by omega), hys⟩, hF.symm, hk.symm⟩) | ((with_reducible refine VC.mk ?_); exact ⟨rfl, smF_ok hsz.1, hfs⟩) | (with_reducible first | refine splitT ?_ | refine splitF ?_) | ((with_reducible refine splitM.mk (fun hsm => ?_) (fun hsm => ?_)) <;> (try exact zx)) | ((with_reducible refine splitB.mk (fun h => ?_) (fun h => ?_)) <;> (try simp only [zs, ne_eq] at h) <;> (try simp (disch := omega) only [w64] at h) <;> (try exact zx)) | (with_reducible intro hz; (try exact absurd hz (Nat.succ_ne_zero _)))))
    refine loopW tabOk (E := [(56, s_vScale), (37, s_fOk), (57, s_size), (38, s_cmp), (26, s_num), (53, (s_addQ (fp, fq) k)), (54, s_mulO)]) ⟨ok_ValidScale, ok_ValidFrac, ok_size, ok_compare, ok_num, (ok_addQ (fp, fq) k), ok_mulO, trivial⟩ [(6, [(2, 0), (4, 0), (4, 1)]), (11, [(1, 1), (1, 2)])] (σ := Option Nat) (fun o => match o with
      | none => [(4, .ptr 1 0 0), (6, .ptr 2 0 0), (7, .ptr 3 0 0), (8, .ptr 4 0 0), (41, .sl 0 s n x), (42, .int .i64 n), (43, .int .i64 0)]
      | some i => [(4, .ptr 1 0 0), (6, .ptr 2 0 0), (7, .ptr 3 0 0), (8, .ptr 4 0 0), (41, .sl 0 s n x), (42, .int .i64 n), (43, .int .i64 i)]) (fun o => match o with
      | none => [.arr (.prod (.int .i64) (.int .i64)) l 2 wr, .box [.int .i64 0, .int .i64 0, .nils] true false, .arr .bool [!k || !k2] 0 true, .arr (.prod (.int .i64) (.int .i64)) [(fp, fq)] 0 true, .box [.int .i64 w1, .int .i64 w2, .nils] true false]
      | some i => [.arr (.prod (.int .i64) (.int .i64)) l 2 wr, .box [.int .i64 0, .int .i64 0, .nils] true false, .arr .bool [!k || !k2 || wmX (fp, fq) ((seg l s n).take i)] 0 true, .arr (.prod (.int .i64) (.int .i64)) [(fp, fq)] 0 true, .box [.int .i64 w1, .int .i64 w2, .sl 5 0 i 0] true false, .arr (.prod (.int .i64) (.int .i64)) ((wmE (fp, fq) (seg l s n)).take i) 2 true]) (fun o => match o with | none => n + 1 | some i => n - i) (fun o => match o with | none => True | some i => 1 ≤ i ∧ i ≤ n) none trivial ?_ ?_
    · (repeat' ((try (conv => whnf)); first | (with_reducible first | refine And.intro ?_ ?_ | refine WX.of ?_) | exact zc | ((with_reducible refine VC.mk ?_); exact zw) | (with_reducible first | refine splitT ?_ | refine splitF ?_) | ((with_reducible refine splitM.mk (fun hsm => ?_) (fun hsm => ?_)) <;> (try exact zx)) | ((with_reducible refine splitB.mk (fun h => ?_) (fun h => ?_)) <;> (try simp only [zs, ne_eq] at h) <;> (try simp (disch := omega) only [w64] at h) <;> (try exact zx)) | (with_reducible intro hz; (try exact absurd hz (Nat.succ_ne_zero _)))))
      all_goals exact ⟨by simp [← hW, ← hk2]⟩
    · intro o hi
      cases o with
      | none =>
        obtain ⟨⟨p, q⟩, ha⟩ := get_some (l := seg l s n) (i := 0) (by omega)
        have hw2 := wm_get (f := (fp, fq)) ha
        (repeat' ((try (conv => whnf)); first | (with_reducible first | refine And.intro ?_ ?_ | refine WX.of ?_) | exact zc | ((with_reducible refine VC.mk ?_); exact zw) | refine atL_i ha ?_ | ((with_reducible refine VC.mk ?_); exact ⟨rfl, hel _ _ ha, hfs⟩) | (with_reducible first | refine splitT ?_ | refine splitF ?_) | ((with_reducible refine splitM.mk (fun hsm => ?_) (fun hsm => ?_)) <;> (try exact zx)) | ((with_reducible refine splitB.mk (fun h => ?_) (fun h => ?_)) <;> (try simp only [zs, ne_eq] at h) <;> (try simp (disch := omega) only [w64] at h) <;> (try exact zx)) | (with_reducible intro hz; (try exact absurd hz (Nat.succ_ne_zero _)))))
        refine ⟨some 1, by dsimp only; omega, ⟨by omega, by omega⟩, ?_⟩
        (repeat' ((try (conv => whnf)); first | (with_reducible first | refine And.intro ?_ ?_ | refine WX.of ?_) | exact zc | ((with_reducible refine VC.mk ?_); exact zw) | (with_reducible first | refine splitT ?_ | refine splitF ?_) | ((with_reducible refine splitM.mk (fun hsm => ?_) (fun hsm => ?_)) <;> (try exact zx)) | ((with_reducible refine splitB.mk (fun h => ?_) (fun h => ?_)) <;> (try simp only [zs, ne_eq] at h) <;> (try simp (disch := omega) only [w64] at h) <;> (try exact zx)) | (with_reducible intro hz; (try exact absurd hz (Nat.succ_ne_zero _)))))
        · exact ⟨by unfold wmX; rw [show (1 : Nat) = 0 + 1 from rfl, any_snoc ha]; simp⟩
        · exact ⟨by rw [app_0 hw2]⟩
      | some i =>
        dsimp only at hi ⊢
        have hlen2 : ((wmE (fp, fq) (seg l s n)).take i).length = i := by rw [List.length_take, hlen]; omega
        by_cases hlt : i < n
        · obtain ⟨⟨p, q⟩, ha⟩ := get_some (l := seg l s n) (i := i) (by omega)
          have hw2 := wm_get (f := (fp, fq)) ha
          (repeat' ((try (conv => whnf)); first | (with_reducible first | refine And.intro ?_ ?_ | refine WX.of ?_) | exact zc | ((with_reducible refine VC.mk ?_); exact zw) | refine atL_i ha ?_ | ((with_reducible refine VC.mk ?_); exact ⟨rfl, hel _ _ ha, hfs⟩) | (with_reducible first | refine splitT ?_ | refine splitF ?_) | ((with_reducible refine splitM.mk (fun hsm => ?_) (fun hsm => ?_)) <;> (try exact zx)) | ((with_reducible refine splitB.mk (fun h => ?_) (fun h => ?_)) <;> (try simp only [zs, ne_eq] at h) <;> (try simp (disch := omega) only [w64] at h) <;> (try exact zx)) | (with_reducible intro hz; (try exact absurd hz (Nat.succ_ne_zero _)))))
          refine ⟨some (i + 1), by dsimp only; omega, ⟨by omega, by omega⟩, ?_⟩
          (repeat' ((try (conv => whnf)); first | (with_reducible first | refine And.intro ?_ ?_ | refine WX.of ?_) | exact zc | ((with_reducible refine VC.mk ?_); exact zw) | (with_reducible first | refine splitT ?_ | refine splitF ?_) | ((with_reducible refine splitM.mk (fun hsm => ?_) (fun hsm => ?_)) <;> (try exact zx)) | ((with_reducible refine splitB.mk (fun h => ?_) (fun h => ?_)) <;> (try simp only [zs, ne_eq] at h) <;> (try simp (disch := omega) only [w64] at h) <;> (try exact zx)) | (with_reducible intro hz; (try exact absurd hz (Nat.succ_ne_zero _)))))
          · exact ⟨by unfold wmX; rw [any_snoc ha, Bool.or_assoc]⟩
          · exact ⟨app_take hw2⟩
        · obtain rfl : i = n := by omega
          rw [List.take_of_length_le (by omega), List.take_of_length_le (by omega)]
          (repeat' ((try (conv => whnf)); first | (with_reducible first | refine And.intro ?_ ?_ | refine WX.of ?_) | exact zc | ((with_reducible refine VC.mk ?_); exact zw) | ((with_reducible refine VC.mk ?_); exact ⟨by omega, by omega⟩) | (with_reducible first | refine splitT ?_ | refine splitF ?_) | ((with_reducible refine splitM.mk (fun hsm => ?_) (fun hsm => ?_)) <;> (try exact zx)) | ((with_reducible refine splitB.mk (fun h => ?_) (fun h => ?_)) <;> (try simp only [zs, ne_eq] at h) <;> (try simp (disch := omega) only [w64] at h) <;> (try exact zx)) | (with_reducible intro hz; (try exact absurd hz (Nat.succ_ne_zero _)))))
          all_goals (exfalso; rename_i h9; rw [hE2] at h; rw [h, h9] at hbad; simp at hbad)
end Go.Proofs.Ytbmejhabgoimeaa.Eng
set_option linter.unusedVariables false
set_option linter.unusedSimpArgs false
namespace Go.Proofs.Ytbmejhabgoimeaa.Eng
open Go Go.RowKit
set_option maxRecDepth 100000
def s_addZP (v : FrT) : Spec := fun args S => match args, S with
  | [.agg [.int .i64 p, .int .i64 q], .agg [.int .i64 p', .int .i64 q']], [] => ⟨(smF p q ∧ smF p' q') ∧ adO (p, q) (p', q') = some v, .tup [.agg [.int .i64 v.1, .int .i64 v.2], .int .i64 0], []⟩
  | _, _ => noSpec
theorem ok_addZP (v : FrT) : SpecOk Try.prog 82 (s_addZP v) := by
  intro args S h; unfold s_addZP at h ⊢; (split at h <;> first | exact False.elim h | skip)
  dsimp only at h ⊢
  rename_i p q p' q'
  have h2 := ok_l01AddZ [.agg [.int .i64 p, .int .i64 q], .agg [.int .i64 p', .int .i64 q']] [] h.1
  simp only [s_addZ, h.2, zv_s, oC, Option.isSome_some, if_true] at h2
  exact h2
theorem wmX_no {f : FrT} {E : List FrT} {i : Nat} {a : FrT} (ha : E[i]? = some a) (h : muO a f = none) : wmX f E = true := by
  unfold wmX
  rw [List.any_eq_true]
  exact ⟨a, List.mem_of_getElem? ha, by rw [h]; rfl⟩
theorem wmX_st {f : FrT} {E : List FrT} {i : Nat} {a v : FrT} (ha : E[i]? = some a) (h : muO a f = some v) (hp : wmX f (E.take i) = false) : wmX f (E.take (i + 1)) = false := by
  unfold wmX at hp ⊢
  rw [any_snoc ha, hp, h]; rfl
attribute [local irreducible] sbO muO adO dvO mkV in
set_option maxHeartbeats 3200000 in
theorem ok_warm1S (w : FrT) (E' : List FrT) : SpecOk Try.prog 47 (s_warm1 w E') := by
  intro args S h; unfold s_warm1 at h ⊢; (split at h <;> first | exact False.elim h | skip)
  dsimp only at h ⊢
  rename_i up uq s n x yp yq l wr
  obtain ⟨⟨h1, hsc, hy⟩, hw⟩ := h
  have hL := seg_len h1
  have hsz := sc_sz hsc
  rw [hL] at hsz
  have hel := sc_el hsc
  have hys := smF_ok hy
  have hyn := hys
  unfold smF at hyn
  obtain ⟨h0, ⟨fp, fq⟩, hf, hm, hX, hs', hE⟩ := warm_ok hw
  dsimp only at h0
  have hfs : smF fp fq := by have := smF_ad (1, 1) (yp, yq); rw [hf] at this; exact this
  have hlen : (wmE (fp, fq) (seg l s n)).length = n := by rw [wm_len, hL]
  have hE2 : seg E' 0 n = E' := seg_full (by rw [← hE]; exact hlen)
  have hE3 : E'.length = n := by rw [← hE]; exact hlen
  have hcn : oC (muO (up, uq) (fp, fq)) = 0 := by rw [hm]; rfl
  have hcz : zv (muO (up, uq) (fp, fq)) = w := by rw [hm]; rfl
  refine funW tabOk (E := [(73, s_l02OkW), (79, s_fOk), (80, s_abs), (46, s_num), (82, (s_addZP (fp, fq))), (81, s_mulZ)]) ⟨ok_l02OkW, ok_l01Ok, ok_l01Abs, ok_l01Whole, (ok_addZP (fp, fq)), ok_l01MulZ, trivial⟩ [(3, [(5, 0)]), (5, [(1, 0), (6, 0), (6, 1)]), (15, [(10, 0)])] (k := 1) (fn := Try.f47) rfl rfl rfl rfl rfl rfl ?_
  (repeat' ((try (conv => whnf)); first | (with_reducible first | refine And.intro ?_ ?_ | refine WX.of ?_) | exact zc | ((with_reducible refine VC.mk ?_); exact zw) | ((with_reducible refine splitT_of ?_ ?_); (focus (simp only [hsc, hy, hcn, ne_eq, not_true_eq_false, Bool.not_true, Bool.not_false, decide_true, decide_false]; done))) | ((with_reducible refine splitF_of ?_ ?_); (focus (simp only [hsc, hy, hcn, ne_eq, not_true_eq_false, Bool.not_true, Bool.not_false, decide_true, decide_false]; done))) | ((with_reducible refine VC.mk ?_); exact ⟨h1, by omega⟩) | ((with_reducible refine VC.mk ?_); exact ⟨⟨smF_1 (by omega), hys⟩, hf⟩) | ((with_reducible refine VC.mk ?_); exact ⟨smF_ok hsz.1, hfs⟩) | (with_reducible first | refine splitT ?_ | refine splitF ?_) | ((with_reducible refine splitM.mk (fun hsm => ?_) (fun hsm => ?_)) <;> (try exact zx)) | ((with_reducible refine splitB.mk (fun h => ?_) (fun h => ?_)) <;> (try simp only [zs, ne_eq] at h) <;> (try simp (disch := omega) only [w64] at h) <;> (try exact zx)) | (with_reducible intro hz; (try exact absurd hz (Nat.succ_ne_zero _)))))
  refine loopW tabOk (E := [(73, s_l02OkW), (79, s_fOk), (80, s_abs), (46, s_num), (82, (s_addZP (fp, fq))), (81, s_mulZ)]) ⟨ok_l02OkW, ok_l01Ok, ok_l01Abs, ok_l01Whole, (ok_addZP (fp, fq)), ok_l01MulZ, trivial⟩ [(3, [(5, 0)]), (5, [(1, 0), (6, 0), (6, 1)]), (15, [(10, 0)])] (σ := Option Nat) (fun o => match o with
    | none => [(2, .ptr 1 0 0), (4, .ptr 2 0 0), (6, .ptr 3 0 0), (10, .ptr 4 0 0), (11, .int .i64 0)]
    | some i => [(2, .ptr 1 0 0), (4, .ptr 2 0 0), (6, .ptr 3 0 0), (10, .ptr 4 0 0), (11, .int .i64 i)]) (fun o => match o with
    | none => [.arr (.prod (.int .i64) (.int .i64)) l 2 wr, .box [.int .i64 up, .int .i64 uq, .sl 0 s n x] true false, .box [.int .i64 0, .int .i64 0, .nils] true false, .arr (.prod (.int .i64) (.int .i64)) [(fp, fq)] 0 true, .box [.int .i64 w.1, .int .i64 w.2, .nils] true false]
    | some i => [.arr (.prod (.int .i64) (.int .i64)) l 2 wr, .box [.int .i64 up, .int .i64 uq, .sl 0 s n x] true false, .box [.int .i64 0, .int .i64 0, .nils] true false, .arr (.prod (.int .i64) (.int .i64)) [(fp, fq)] 0 true, .box [.int .i64 w.1, .int .i64 w.2, .sl 5 0 i 0] true false, .arr (.prod (.int .i64) (.int .i64)) ((wmE (fp, fq) (seg l s n)).take i) 2 true]) (fun o => match o with | none => n + 1 | some i => n - i) (fun o => match o with | none => True | some i => 1 ≤ i ∧ i ≤ n ∧ wmX (fp, fq) ((seg l s n).take i) = false) none trivial ?_ ?_
  · (repeat' ((try (conv => whnf)); first | (with_reducible first | refine And.intro ?_ ?_ | refine WX.of ?_) | exact zc | ((with_reducible refine VC.mk ?_); exact zw) | (with_reducible first | refine splitT ?_ | refine splitF ?_) | ((with_reducible refine splitM.mk (fun hsm => ?_) (fun hsm => ?_)) <;> (try exact zx)) | ((with_reducible refine splitB.mk (fun h => ?_) (fun h => ?_)) <;> (try simp only [zs, ne_eq] at h) <;> (try simp (disch := omega) only [w64] at h) <;> (try exact zx)) | (with_reducible intro hz; (try exact absurd hz (Nat.succ_ne_zero _)))))
    all_goals exact ⟨by simp [hcz]⟩
  · intro o hi
    cases o with
    | none =>
      obtain ⟨⟨p, q⟩, ha⟩ := get_some (l := seg l s n) (i := 0) (by omega)
      have hw2 := wm_get (f := (fp, fq)) ha
      (repeat' ((try (conv => whnf)); first | (with_reducible first | refine And.intro ?_ ?_ | refine WX.of ?_) | exact zc | ((with_reducible refine VC.mk ?_); exact zw) | refine atL_i ha ?_ | ((with_reducible refine VC.mk ?_); exact ⟨hel _ _ ha, hfs⟩) | ((with_reducible refine splitO (by first  |  exact okO_sb _ _  |  exact okO_mu _ _  |  exact okO_ad _ _  |  exact okO_dv _ _  |  exact okO_bind _ _ fun _ => okO_ad _ _  |  exact okO_sb _ _) (fun h => ?_) (fun a b h hs => ?_)) <;> (try rw [h]) <;> (try simp only [zv_s] at h) <;> (try dsimp only at h)) | (with_reducible first | refine splitT ?_ | refine splitF ?_) | ((with_reducible refine splitM.mk (fun hsm => ?_) (fun hsm => ?_)) <;> (try exact zx)) | ((with_reducible refine splitB.mk (fun h => ?_) (fun h => ?_)) <;> (try simp only [zs, ne_eq] at h) <;> (try simp (disch := omega) only [w64] at h) <;> (try exact zx)) | (with_reducible intro hz; (try exact absurd hz (Nat.succ_ne_zero _)))))
      · exfalso; rw [wmX_no ha h] at hX; cases hX
      · exfalso; rw [wmX_no ha h] at hX; cases hX
      · rw [h] at hw2
        refine ⟨some 1, by dsimp only; omega, ⟨by omega, by omega, wmX_st (i := 0) ha h rfl⟩, ?_⟩
        (repeat' ((try (conv => whnf)); first | (with_reducible first | refine And.intro ?_ ?_ | refine WX.of ?_) | exact zc | ((with_reducible refine VC.mk ?_); exact zw) | (with_reducible first | refine splitT ?_ | refine splitF ?_) | ((with_reducible refine splitM.mk (fun hsm => ?_) (fun hsm => ?_)) <;> (try exact zx)) | ((with_reducible refine splitB.mk (fun h => ?_) (fun h => ?_)) <;> (try simp only [zs, ne_eq] at h) <;> (try simp (disch := omega) only [w64] at h) <;> (try exact zx)) | (with_reducible intro hz; (try exact absurd hz (Nat.succ_ne_zero _)))))
        exact ⟨by rw [← app_0 hw2]; rfl⟩
    | some i =>
      dsimp only at hi ⊢
      have hlen2 : ((wmE (fp, fq) (seg l s n)).take i).length = i := by rw [List.length_take, hlen]; omega
      by_cases hlt : i < n
      · obtain ⟨⟨p, q⟩, ha⟩ := get_some (l := seg l s n) (i := i) (by omega)
        have hw2 := wm_get (f := (fp, fq)) ha
        (repeat' ((try (conv => whnf)); first | (with_reducible first | refine And.intro ?_ ?_ | refine WX.of ?_) | exact zc | ((with_reducible refine VC.mk ?_); exact zw) | refine atL_i ha ?_ | ((with_reducible refine VC.mk ?_); exact ⟨hel _ _ ha, hfs⟩) | ((with_reducible refine splitO (by first  |  exact okO_sb _ _  |  exact okO_mu _ _  |  exact okO_ad _ _  |  exact okO_dv _ _  |  exact okO_bind _ _ fun _ => okO_ad _ _  |  exact okO_sb _ _) (fun h => ?_) (fun a b h hs => ?_)) <;> (try rw [h]) <;> (try simp only [zv_s] at h) <;> (try dsimp only at h)) | (with_reducible first | refine splitT ?_ | refine splitF ?_) | ((with_reducible refine splitM.mk (fun hsm => ?_) (fun hsm => ?_)) <;> (try exact zx)) | ((with_reducible refine splitB.mk (fun h => ?_) (fun h => ?_)) <;> (try simp only [zs, ne_eq] at h) <;> (try simp (disch := omega) only [w64] at h) <;> (try exact zx)) | (with_reducible intro hz; (try exact absurd hz (Nat.succ_ne_zero _)))))
        · exfalso; rw [wmX_no ha h] at hX; cases hX
        · exfalso; rw [wmX_no ha h] at hX; cases hX
        · rw [h] at hw2
          refine ⟨some (i + 1), by dsimp only; omega, ⟨by omega, by omega, wmX_st ha h hi.2.2⟩, ?_⟩
          (repeat' ((try (conv => whnf)); first | (with_reducible first | refine And.intro ?_ ?_ | refine WX.of ?_) | exact zc | ((with_reducible refine VC.mk ?_); exact zw) | (with_reducible first | refine splitT ?_ | refine splitF ?_) | ((with_reducible refine splitM.mk (fun hsm => ?_) (fun hsm => ?_)) <;> (try exact zx)) | ((with_reducible refine splitB.mk (fun h => ?_) (fun h => ?_)) <;> (try simp only [zs, ne_eq] at h) <;> (try simp (disch := omega) only [w64] at h) <;> (try exact zx)) | (with_reducible intro hz; (try exact absurd hz (Nat.succ_ne_zero _)))))
          exact ⟨app_take hw2⟩
      · obtain rfl : i = n := by omega
        rw [List.take_of_length_le (by omega), hE]
        (repeat' ((try (conv => whnf)); first | (with_reducible first | refine And.intro ?_ ?_ | refine WX.of ?_) | exact zc | ((with_reducible refine VC.mk ?_); exact zw) | ((with_reducible refine splitT_of ?_ ?_); (focus (simp only [hE2, hs', Bool.not_true, Bool.not_false, decide_true, decide_false]; done))) | ((with_reducible refine splitF_of ?_ ?_); (focus (simp only [hE2, hs', Bool.not_true, Bool.not_false, decide_true, decide_false]; done))) | ((with_reducible refine VC.mk ?_); exact ⟨by omega, by omega⟩) | (with_reducible first | refine splitT ?_ | refine splitF ?_) | ((with_reducible refine splitM.mk (fun hsm => ?_) (fun hsm => ?_)) <;> (try exact zx)) | ((with_reducible refine splitB.mk (fun h => ?_) (fun h => ?_)) <;> (try simp only [zs, ne_eq] at h) <;> (try simp (disch := omega) only [w64] at h) <;> (try exact zx)) | (with_reducible intro hz; (try exact absurd hz (Nat.succ_ne_zero _)))))
attribute [local irreducible] sbO muO adO dvO mkV in
set_option maxHeartbeats 3200000 in
theorem ok_warm0S (c : Int) : SpecOk Try.prog 47 (s_warm0 c) := by
  intro args S h; unfold s_warm0 at h ⊢; (split at h <;> first | exact False.elim h | skip)
  dsimp only at h ⊢
  rename_i up uq s n x yp yq l wr
  obtain ⟨⟨h1, hsc, hy⟩, hw⟩ := h
  have hL := seg_len h1
  have hsz := sc_sz hsc
  rw [hL] at hsz
  have hel := sc_el hsc
  have hys := smF_ok hy
  have hyn := hys
  unfold smF at hyn
  by_cases h0 : 10 * (yp.natAbs : Int) > yq
  · obtain rfl := warm_far hw h0
    refine funW tabOk (E := [(73, s_l02OkW), (79, s_fOk), (80, s_abs)]) ⟨ok_l02OkW, ok_l01Ok, ok_l01Abs, trivial⟩ [(3, [(5, 0)]), (5, [(1, 0), (6, 0), (6, 1)]), (15, [(10, 0)])] (k := 1) (fn := Try.f47) rfl rfl rfl rfl rfl rfl ?_
    (repeat' ((try (conv => whnf)); first | (with_reducible first | refine And.intro ?_ ?_ | refine WX.of ?_) | exact zc | ((with_reducible refine VC.mk ?_); exact zw) | ((with_reducible refine splitT_of ?_ ?_); (focus (simp only [hsc, hy, Bool.not_true, Bool.not_false, decide_true, decide_false]; done))) | ((with_reducible refine splitF_of ?_ ?_); (focus (simp only [hsc, hy, Bool.not_true, Bool.not_false, decide_true, decide_false]; done))) | ((with_reducible refine VC.mk ?_); exact ⟨h1, by omega⟩) | (with_reducible first | refine splitT ?_ | refine splitF ?_) | ((with_reducible refine splitM.mk (fun hsm => ?_) (fun hsm => ?_)) <;> (try exact zx)) | ((with_reducible refine splitB.mk (fun h => ?_) (fun h => ?_)) <;> (try simp only [zs, ne_eq] at h) <;> (try simp (disch := omega) only [w64] at h) <;> (try exact zx)) | (with_reducible intro hz; (try exact absurd hz (Nat.succ_ne_zero _)))))
  · obtain ⟨rfl, hno⟩ := warm_no hw h0
    cases hf : adO (1, 1) (yp, yq) with
    | none =>
      have hcn : decide (oC (adO (1, 1) (yp, yq)) ≠ 0) = true := by rw [hf]; rfl
      refine funW tabOk (E := [(73, s_l02OkW), (79, s_fOk), (80, s_abs), (46, s_num), (82, s_addZ)]) ⟨ok_l02OkW, ok_l01Ok, ok_l01Abs, ok_l01Whole, ok_l01AddZ, trivial⟩ [(3, [(5, 0)]), (5, [(1, 0), (6, 0), (6, 1)]), (15, [(10, 0)])] (k := 1) (fn := Try.f47) rfl rfl rfl rfl rfl rfl ?_
      (repeat' ((try (conv => whnf)); first | (with_reducible first | refine And.intro ?_ ?_ | refine WX.of ?_) | exact zc | ((with_reducible refine VC.mk ?_); exact zw) | ((with_reducible refine splitT_of ?_ ?_); (focus (simp only [hsc, hy, hcn, Bool.not_true, Bool.not_false, decide_true, decide_false]; done))) | ((with_reducible refine splitF_of ?_ ?_); (focus (simp only [hsc, hy, hcn, Bool.not_true, Bool.not_false, decide_true, decide_false]; done))) | ((with_reducible refine VC.mk ?_); exact ⟨h1, by omega⟩) | ((with_reducible refine VC.mk ?_); exact ⟨smF_1 (by omega), hys⟩) | (with_reducible first | refine splitT ?_ | refine splitF ?_) | ((with_reducible refine splitM.mk (fun hsm => ?_) (fun hsm => ?_)) <;> (try exact zx)) | ((with_reducible refine splitB.mk (fun h => ?_) (fun h => ?_)) <;> (try simp only [zs, ne_eq] at h) <;> (try simp (disch := omega) only [w64] at h) <;> (try exact zx)) | (with_reducible intro hz; (try exact absurd hz (Nat.succ_ne_zero _)))))
      all_goals exact ⟨by simp [hf, oC]⟩
    | some f =>
      obtain ⟨fp, fq⟩ := f
      have hfs : smF fp fq := by have := smF_ad (1, 1) (yp, yq); rw [hf] at this; exact this
      cases hm : muO (up, uq) (fp, fq) with
      | none =>
        have hcn : decide (oC (muO (up, uq) (fp, fq)) ≠ 0) = true := by rw [hm]; rfl
        refine funW tabOk (E := [(73, s_l02OkW), (79, s_fOk), (80, s_abs), (46, s_num), (82, (s_addZP (fp, fq))), (81, s_mulZ)]) ⟨ok_l02OkW, ok_l01Ok, ok_l01Abs, ok_l01Whole, (ok_addZP (fp, fq)), ok_l01MulZ, trivial⟩ [(3, [(5, 0)]), (5, [(1, 0), (6, 0), (6, 1)]), (15, [(10, 0)])] (k := 1) (fn := Try.f47) rfl rfl rfl rfl rfl rfl ?_
        (repeat' ((try (conv => whnf)); first | (with_reducible first | refine And.intro ?_ ?_ | refine WX.of ?_) | exact zc | ((with_reducible refine VC.mk ?_); exact zw) | ((with_reducible refine splitT_of ?_ ?_); (focus (simp only [hsc, hy, hcn, Bool.not_true, Bool.not_false, decide_true, decide_false]; done))) | ((with_reducible refine splitF_of ?_ ?_); (focus (simp only [hsc, hy, hcn, Bool.not_true, Bool.not_false, decide_true, decide_false]; done))) | ((with_reducible refine VC.mk ?_); exact ⟨h1, by omega⟩) | ((with_reducible refine VC.mk ?_); exact ⟨⟨smF_1 (by omega), hys⟩, hf⟩) | ((with_reducible refine VC.mk ?_); exact ⟨smF_ok hsz.1, hfs⟩) | (with_reducible first | refine splitT ?_ | refine splitF ?_) | ((with_reducible refine splitM.mk (fun hsm => ?_) (fun hsm => ?_)) <;> (try exact zx)) | ((with_reducible refine splitB.mk (fun h => ?_) (fun h => ?_)) <;> (try simp only [zs, ne_eq] at h) <;> (try simp (disch := omega) only [w64] at h) <;> (try exact zx)) | (with_reducible intro hz; (try exact absurd hz (Nat.succ_ne_zero _)))))
        all_goals exact ⟨by simp [hm, oC]⟩
      | some w =>
        have hlen : (wmE (fp, fq) (seg l s n)).length = n := by rw [wm_len, hL]
        have hE2 : seg (wmE (fp, fq) (seg l s n)) 0 n = wmE (fp, fq) (seg l s n) := seg_full hlen
        have hcn : oC (muO (up, uq) (fp, fq)) = 0 := by rw [hm]; rfl
        have hcz : zv (muO (up, uq) (fp, fq)) = w := by rw [hm]; rfl
        have hbad : wmX (fp, fq) (seg l s n) = false → scB w.1 w.2 (wmE (fp, fq) (seg l s n)) = false := fun hX => by
          cases hq : scB w.1 w.2 (wmE (fp, fq) (seg l s n)) with
          | false => rfl
          | true =>
            unfold wmO at hno
            rw [hf] at hno
            simp only [Option.bind_some, hm] at hno
            rw [if_pos ⟨hX, hq⟩] at hno
            cases hno
        refine funW tabOk (E := [(73, s_l02OkW), (79, s_fOk), (80, s_abs), (46, s_num), (82, (s_addZP (fp, fq))), (81, s_mulZ)]) ⟨ok_l02OkW, ok_l01Ok, ok_l01Abs, ok_l01Whole, (ok_addZP (fp, fq)), ok_l01MulZ, trivial⟩ [(3, [(5, 0)]), (5, [(1, 0), (6, 0), (6, 1)]), (15, [(10, 0)])] (k := 1) (fn := Try.f47) rfl rfl rfl rfl rfl rfl ?_
        (repeat' ((try (conv => whnf)); first | (with_reducible first | refine And.intro ?_ ?_ | refine WX.of ?_) | exact zc | ((with_reducible refine VC.mk ?_); exact zw) | ((with_reducible refine splitT_of ?_ ?_); (focus (simp only [hsc, hy, hcn, ne_eq, not_true_eq_false, Bool.not_true, Bool.not_false, decide_true, decide_false]; done))) | ((with_reducible refine splitF_of ?_ ?_); (focus (simp only [hsc, hy, hcn, ne_eq, not_true_eq_false, Bool.not_true, Bool.not_false, decide_true, decide_false]; done))) | ((with_reducible refine VC.mk ?_); exact ⟨h1, by omega⟩) | ((with_reducible refine VC.mk ?_); exact ⟨⟨smF_1 (by omega), hys⟩, hf⟩) | ((with_reducible refine VC.mk ?_); exact ⟨smF_ok hsz.1, hfs⟩) | (with_reducible first | refine splitT ?_ | refine splitF ?_) | ((with_reducible refine splitM.mk (fun hsm => ?_) (fun hsm => ?_)) <;> (try exact zx)) | ((with_reducible refine splitB.mk (fun h => ?_) (fun h => ?_)) <;> (try simp only [zs, ne_eq] at h) <;> (try simp (disch := omega) only [w64] at h) <;> (try exact zx)) | (with_reducible intro hz; (try exact absurd hz (Nat.succ_ne_zero _)))))
        refine loopW tabOk (E := [(73, s_l02OkW), (79, s_fOk), (80, s_abs), (46, s_num), (82, (s_addZP (fp, fq))), (81, s_mulZ)]) ⟨ok_l02OkW, ok_l01Ok, ok_l01Abs, ok_l01Whole, (ok_addZP (fp, fq)), ok_l01MulZ, trivial⟩ [(3, [(5, 0)]), (5, [(1, 0), (6, 0), (6, 1)]), (15, [(10, 0)])] (σ := Option Nat) (fun o => match o with
          | none => [(2, .ptr 1 0 0), (4, .ptr 2 0 0), (6, .ptr 3 0 0), (10, .ptr 4 0 0), (11, .int .i64 0)]
          | some i => [(2, .ptr 1 0 0), (4, .ptr 2 0 0), (6, .ptr 3 0 0), (10, .ptr 4 0 0), (11, .int .i64 i)]) (fun o => match o with
          | none => [.arr (.prod (.int .i64) (.int .i64)) l 2 wr, .box [.int .i64 up, .int .i64 uq, .sl 0 s n x] true false, .box [.int .i64 0, .int .i64 0, .nils] true false, .arr (.prod (.int .i64) (.int .i64)) [(fp, fq)] 0 true, .box [.int .i64 w.1, .int .i64 w.2, .nils] true false]
          | some i => [.arr (.prod (.int .i64) (.int .i64)) l 2 wr, .box [.int .i64 up, .int .i64 uq, .sl 0 s n x] true false, .box [.int .i64 0, .int .i64 0, .nils] true false, .arr (.prod (.int .i64) (.int .i64)) [(fp, fq)] 0 true, .box [.int .i64 w.1, .int .i64 w.2, .sl 5 0 i 0] true false, .arr (.prod (.int .i64) (.int .i64)) ((wmE (fp, fq) (seg l s n)).take i) 2 true]) (fun o => match o with | none => n + 1 | some i => n - i) (fun o => match o with | none => True | some i => 1 ≤ i ∧ i ≤ n ∧ wmX (fp, fq) ((seg l s n).take i) = false) none trivial ?_ ?_
        · (repeat' ((try (conv => whnf)); first | (with_reducible first | refine And.intro ?_ ?_ | refine WX.of ?_) | exact zc | ((with_reducible refine VC.mk ?_); exact zw) | (with_reducible first | refine splitT ?_ | refine splitF ?_) | ((with_reducible refine splitM.mk (fun hsm => ?_) (fun hsm => ?_)) <;> (try exact zx)) | ((with_reducible refine splitB.mk (fun h => ?_) (fun h => ?_)) <;> (try simp only [zs, ne_eq] at h) <;> (try simp (disch := omega) only [w64] at h) <;> (try exact zx)) | (with_reducible intro hz; (try exact absurd hz (Nat.succ_ne_zero _)))))
          all_goals exact ⟨by simp [hcz]⟩
        · intro o hi
          cases o with
          | none =>
            obtain ⟨⟨p, q⟩, ha⟩ := get_some (l := seg l s n) (i := 0) (by omega)
            have hw2 := wm_get (f := (fp, fq)) ha
            (repeat' ((try (conv => whnf)); first | (with_reducible first | refine And.intro ?_ ?_ | refine WX.of ?_) | exact zc | ((with_reducible refine VC.mk ?_); exact zw) | refine atL_i ha ?_ | ((with_reducible refine VC.mk ?_); exact ⟨hel _ _ ha, hfs⟩) | ((with_reducible refine splitO (by first  |  exact okO_sb _ _  |  exact okO_mu _ _  |  exact okO_ad _ _  |  exact okO_dv _ _  |  exact okO_bind _ _ fun _ => okO_ad _ _  |  exact okO_sb _ _) (fun h => ?_) (fun a b h hs => ?_)) <;> (try rw [h]) <;> (try simp only [zv_s] at h) <;> (try dsimp only at h)) | (with_reducible first | refine splitT ?_ | refine splitF ?_) | ((with_reducible refine splitM.mk (fun hsm => ?_) (fun hsm => ?_)) <;> (try exact zx)) | ((with_reducible refine splitB.mk (fun h => ?_) (fun h => ?_)) <;> (try simp only [zs, ne_eq] at h) <;> (try simp (disch := omega) only [w64] at h) <;> (try exact zx)) | (with_reducible intro hz; (try exact absurd hz (Nat.succ_ne_zero _)))))
            rw [h] at hw2
            refine ⟨some 1, by dsimp only; omega, ⟨by omega, by omega, wmX_st (i := 0) ha h rfl⟩, ?_⟩
            (repeat' ((try (conv => whnf)); first | (with_reducible first | refine And.intro ?_ ?_ | refine WX.of ?_) | exact zc | ((with_reducible refine VC.mk ?_); exact zw) | (with_reducible first | refine splitT ?_ | refine splitF ?_) | ((with_reducible refine splitM.mk (fun hsm => ?_) (fun hsm => ?_)) <;> (try exact zx)) | ((with_reducible refine splitB.mk (fun h => ?_) (fun h => ?_)) <;> (try simp only [zs, ne_eq] at h) <;> (try simp (disch := omega) only [w64] at h) <;> (try exact zx)) | (with_reducible intro hz; (try exact absurd hz (Nat.succ_ne_zero _)))))
            exact ⟨by rw [← app_0 hw2]; rfl⟩
          | some i =>
            dsimp only at hi ⊢
            have hlen2 : ((wmE (fp, fq) (seg l s n)).take i).length = i := by rw [List.length_take, hlen]; omega
            by_cases hlt : i < n
            · obtain ⟨⟨p, q⟩, ha⟩ := get_some (l := seg l s n) (i := i) (by omega)
              have hw2 := wm_get (f := (fp, fq)) ha
              (repeat' ((try (conv => whnf)); first | (with_reducible first | refine And.intro ?_ ?_ | refine WX.of ?_) | exact zc | ((with_reducible refine VC.mk ?_); exact zw) | refine atL_i ha ?_ | ((with_reducible refine VC.mk ?_); exact ⟨hel _ _ ha, hfs⟩) | ((with_reducible refine splitO (by first  |  exact okO_sb _ _  |  exact okO_mu _ _  |  exact okO_ad _ _  |  exact okO_dv _ _  |  exact okO_bind _ _ fun _ => okO_ad _ _  |  exact okO_sb _ _) (fun h => ?_) (fun a b h hs => ?_)) <;> (try rw [h]) <;> (try simp only [zv_s] at h) <;> (try dsimp only at h)) | (with_reducible first | refine splitT ?_ | refine splitF ?_) | ((with_reducible refine splitM.mk (fun hsm => ?_) (fun hsm => ?_)) <;> (try exact zx)) | ((with_reducible refine splitB.mk (fun h => ?_) (fun h => ?_)) <;> (try simp only [zs, ne_eq] at h) <;> (try simp (disch := omega) only [w64] at h) <;> (try exact zx)) | (with_reducible intro hz; (try exact absurd hz (Nat.succ_ne_zero _)))))
              rw [h] at hw2
              refine ⟨some (i + 1), by dsimp only; omega, ⟨by omega, by omega, wmX_st ha h hi.2.2⟩, ?_⟩
              (repeat' ((try (conv => whnf)); first | (with_reducible first | refine And.intro ?_ ?_ | refine WX.of ?_) | exact zc | ((with_reducible refine VC.mk ?_); exact zw) | (with_reducible first | refine splitT ?_ | refine splitF ?_) | ((with_reducible refine splitM.mk (fun hsm => ?_) (fun hsm => ?_)) <;> (try exact zx)) | ((with_reducible refine splitB.mk (fun h => ?_) (fun h => ?_)) <;> (try simp only [zs, ne_eq] at h) <;> (try simp (disch := omega) only [w64] at h) <;> (try exact zx)) | (with_reducible intro hz; (try exact absurd hz (Nat.succ_ne_zero _)))))
              exact ⟨app_take hw2⟩
            · obtain rfl : i = n := by omega
              have hXn := hi.2.2
              rw [List.take_of_length_le (by omega)] at hXn
              have hbn := hbad hXn
              rw [List.take_of_length_le (by omega)]
              (repeat' ((try (conv => whnf)); first | (with_reducible first | refine And.intro ?_ ?_ | refine WX.of ?_) | exact zc | ((with_reducible refine VC.mk ?_); exact zw) | ((with_reducible refine splitT_of ?_ ?_); (focus (simp only [hE2, hbn, Bool.not_true, Bool.not_false, decide_true, decide_false]; done))) | ((with_reducible refine splitF_of ?_ ?_); (focus (simp only [hE2, hbn, Bool.not_true, Bool.not_false, decide_true, decide_false]; done))) | ((with_reducible refine VC.mk ?_); exact ⟨by omega, by omega⟩) | (with_reducible first | refine splitT ?_ | refine splitF ?_) | ((with_reducible refine splitM.mk (fun hsm => ?_) (fun hsm => ?_)) <;> (try exact zx)) | ((with_reducible refine splitB.mk (fun h => ?_) (fun h => ?_)) <;> (try simp only [zs, ne_eq] at h) <;> (try simp (disch := omega) only [w64] at h) <;> (try exact zx)) | (with_reducible intro hz; (try exact absurd hz (Nat.succ_ne_zero _)))))
              all_goals trace_state
/-- The readings of both ends, with the code of what is not valid. -/
def rdE (ok : Bool) (u : FrT) (E : List FrT) (vp : Int) (vb : Bool) (g : FrT) (T : List ThT) (c : ShT) : EX (FrT × FrT) := if ok = true then endsE u E vp vb g T c else .error 1
def e2V (e : EX (FrT × FrT)) : FrT × FrT := eV ((0, 0), (0, 0)) e
def s_rdends : Spec := fun args S => match args, S with
  | [.agg [.int .i64 up, .int .i64 uq, .sl 0 s n x, .int .i64 vp, .bool vb, .int .i64 gp, .int .i64 gq, .sl 1 t m y], .agg [.int .i64 i, .int .i64 wp, .int .i64 wq, .int .i64 sp, .int .i64 sq]], [.arr (.prod (.int .i64) (.int .i64)) l 2 wr, .arr (.prod .str (.prod (.prod (.int .i64) (.int .i64)) (.prod (.int .i64) (.int .i64)))) T 5 wT] => ⟨(s + n ≤ l.length ∧ n ≤ 1048576) ∧ (t + m ≤ T.length ∧ m ≤ 1048576) ∧ ∀ (j : Nat) (a : ThT), T[j]? = some a → a.1.length < 9223372036854775808, .tup [.agg [.int .i64 (e2V (rdE (bnB up uq vp gp gq (seg l s n) (seg T t m) && shB m (i, (wp, wq), sp, sq)) (up, uq) (seg l s n) vp vb (gp, gq) (seg T t m) (i, (wp, wq), sp, sq))).1.1, .int .i64 (e2V (rdE (bnB up uq vp gp gq (seg l s n) (seg T t m) && shB m (i, (wp, wq), sp, sq)) (up, uq) (seg l s n) vp vb (gp, gq) (seg T t m) (i, (wp, wq), sp, sq))).1.2], .agg [.int .i64 (e2V (rdE (bnB up uq vp gp gq (seg l s n) (seg T t m) && shB m (i, (wp, wq), sp, sq)) (up, uq) (seg l s n) vp vb (gp, gq) (seg T t m) (i, (wp, wq), sp, sq))).2.1, .int .i64 (e2V (rdE (bnB up uq vp gp gq (seg l s n) (seg T t m) && shB m (i, (wp, wq), sp, sq)) (up, uq) (seg l s n) vp vb (gp, gq) (seg T t m) (i, (wp, wq), sp, sq))).2.2], .int .i64 (eC (rdE (bnB up uq vp gp gq (seg l s n) (seg T t m) && shB m (i, (wp, wq), sp, sq)) (up, uq) (seg l s n) vp vb (gp, gq) (seg T t m) (i, (wp, wq), sp, sq)))], [.arr (.prod (.int .i64) (.int .i64)) l 2 wr, .arr (.prod .str (.prod (.prod (.int .i64) (.int .i64)) (.prod (.int .i64) (.int .i64)))) T 5 wT]⟩
  | _, _ => noSpec
/-- Both ends are known. -/
def s_ends1 (e : FrT) : Spec := fun args S => match args, S with
  | [.agg [.int .i64 up, .int .i64 uq, .sl 0 s n x, .int .i64 vp, .bool vb, .int .i64 gp, .int .i64 gq, .sl 1 t m y], .agg [.int .i64 i, .int .i64 wp, .int .i64 wq, .int .i64 sp, .int .i64 sq]], [.arr (.prod (.int .i64) (.int .i64)) l 2 wr, .arr (.prod .str (.prod (.prod (.int .i64) (.int .i64)) (.prod (.int .i64) (.int .i64)))) T 5 wT] => ⟨((s + n ≤ l.length ∧ n ≤ 1048576) ∧ (t + m ≤ T.length ∧ m ≤ 1048576) ∧ ∀ (j : Nat) (a : ThT), T[j]? = some a → a.1.length < 9223372036854775808) ∧ (bnB up uq vp gp gq (seg l s n) (seg T t m) && shB m (i, (wp, wq), sp, sq)) = true ∧ enT (seg T t m) (i, (wp, wq), sp, sq) = some e, .tup [.agg [.int .i64 sp, .int .i64 sq], .agg [.int .i64 e.1, .int .i64 e.2], .int .i64 0], [.arr (.prod (.int .i64) (.int .i64)) l 2 wr, .arr (.prod .str (.prod (.prod (.int .i64) (.int .i64)) (.prod (.int .i64) (.int .i64)))) T 5 wT]⟩
  | _, _ => noSpec
theorem ok_ends1 (e : FrT) : SpecOk Try.prog 23 (s_ends1 e) := by
  intro args S h; unfold s_ends1 at h ⊢; (split at h <;> first | exact False.elim h | skip)
  dsimp only at h ⊢
  rename_i up uq s n x vp vb gp gq t m y i wp wq sp sq l wr T wT
  have h2 := ok_EndsOfI [.agg [.int .i64 up, .int .i64 uq, .sl 0 s n x, .int .i64 vp, .bool vb, .int .i64 gp, .int .i64 gq, .sl 1 t m y], .agg [.int .i64 i, .int .i64 wp, .int .i64 wq, .int .i64 sp, .int .i64 sq]] [.arr (.prod (.int .i64) (.int .i64)) l 2 wr, .arr (.prod .str (.prod (.prod (.int .i64) (.int .i64)) (.prod (.int .i64) (.int .i64)))) T 5 wT] h.1
  simp only [s_ends, h.2.1, h.2.2, okC, oC, zv_s, if_true, Option.isSome_some] at h2
  exact h2
def s_strP (v : FrT) : Spec := fun args S => match args, S with
  | [.ptr b 0 0, .agg [.int .i64 p, .int .i64 q], .agg [.int .i64 p', .int .i64 q']], [.arr .bool [bad] 0 true] => ⟨(b = 0 ∧ smF p q ∧ smF p' q') ∧ stO (p, q) (p', q') = some v, .agg [.int .i64 v.1, .int .i64 v.2], [.arr .bool [bad] 0 true]⟩
  | _, _ => noSpec
theorem ok_strP (v : FrT) : SpecOk Try.prog 24 (s_strP v) := by
  intro args S h; unfold s_strP at h ⊢; (split at h <;> first | exact False.elim h | skip)
  dsimp only at h ⊢
  rename_i b p q p' q' bad
  have h2 := ok_strO [.ptr b 0 0, .agg [.int .i64 p, .int .i64 q], .agg [.int .i64 p', .int .i64 q']] [.arr .bool [bad] 0 true] h.1
  simp only [s_strO, stV_e h.2, h.2, Option.isSome_some, Bool.not_true, Bool.or_false] at h2
  exact h2
def s_subP (v : FrT) : Spec := fun args S => match args, S with
  | [.ptr b 0 0, .agg [.int .i64 p, .int .i64 q], .agg [.int .i64 p', .int .i64 q']], [.arr .bool [bad] 0 true] => ⟨(b = 0 ∧ smF p q ∧ smF p' q') ∧ sbO (p, q) (p', q') = some v, .agg [.int .i64 v.1, .int .i64 v.2], [.arr .bool [bad] 0 true]⟩
  | _, _ => noSpec
theorem ok_subP (v : FrT) : SpecOk Try.prog 25 (s_subP v) := by
  intro args S h; unfold s_subP at h ⊢; (split at h <;> first | exact False.elim h | skip)
  dsimp only at h ⊢
  rename_i b p q p' q' bad
  have h2 := ok_subO [.ptr b 0 0, .agg [.int .i64 p, .int .i64 q], .agg [.int .i64 p', .int .i64 q']] [.arr .bool [bad] 0 true] h.1
  simp only [s_subO, h.2, tv, Option.getD_some, Option.isSome_some, Bool.not_true, Bool.or_false] at h2
  exact h2
/-- A reading, of a scale that is known. -/
def s_readQ (u : FrT) (E : List FrT) : Spec := fun args S => match args, S with
  | [.agg [.int .i64 up, .int .i64 uq, .sl 0 s n x], .agg [.int .i64 vp, .bool vb], .agg [.int .i64 xp, .int .i64 xq]], [.arr (.prod (.int .i64) (.int .i64)) l 2 wr] => ⟨((up, uq) = u ∧ seg l s n = E) ∧ s + n ≤ l.length ∧ scB up uq E = true ∧ (2 ≤ vp ∧ vp ≤ 40) ∧ fOk xp xq = true, .tup [.agg [.int .i64 (eV (0, 0) (readE u E vp vb (xp, xq))).1, .int .i64 (eV (0, 0) (readE u E vp vb (xp, xq))).2], .int .i64 (eC (readE u E vp vb (xp, xq)))], [.arr (.prod (.int .i64) (.int .i64)) l 2 wr]⟩
  | _, _ => noSpec
theorem ok_readQ (u : FrT) (E : List FrT) : SpecOk Try.prog 28 (s_readQ u E) := by
  intro args S h; unfold s_readQ at h ⊢; (split at h <;> first | exact False.elim h | skip)
  dsimp only at h ⊢
  obtain ⟨⟨rfl, rfl⟩, h⟩ := h
  exact ok_ReadVernier _ _ h
theorem read_f {u : FrT} {E : List FrT} {vp : Int} {vb : Bool} {x a : FrT} (h : readE u E vp vb x = .ok a) : fOk a.1 a.2 = true := by
  unfold readE at h
  cases h1 : fitE u E vp vb x with
  | error c => rw [h1] at h; cases h
  | ok f =>
    rw [h1] at h
    simp only [Except.bind] at h
    cases h2 : rvO u vp vb x f with
    | none => rw [h2] at h; cases h
    | some v =>
      rw [h2] at h; cases h
      unfold rvO at h2
      cases h3 : muO (tv (dvO (fln vp vb f, 1) (vp, 1))) u with
      | none => rw [h3] at h2; simp at h2
      | some p =>
        rw [h3] at h2
        simp only [Option.bind_some] at h2
        cases h4 : sbO x p with
        | none => rw [h4] at h2; simp at h2
        | some r =>
          rw [h4] at h2
          simp only [Option.bind_some] at h2
          split at h2
          · cases h5 : muO (nrN r u, 1) u with
            | none => rw [h5] at h2; simp at h2
            | some w => rw [h5] at h2; simp only [Option.bind_some] at h2; exact rO_f h2
          · simp at h2
/-- What one end gives. -/
def oneE (w : FrT) (E : List FrT) (vp : Int) (vb : Bool) (st x : FrT) : EX FrT := (readE w E vp vb x).bind fun a => ofO (dvO a st)
theorem ends_2 {w : FrT} {E : List FrT} {vp : Int} {vb : Bool} {st x z : FrT} : ((readE w E vp vb x).bind fun a => (ofO (dvO a st)).bind fun d1 => (readE w E vp vb z).bind fun b => (ofO (dvO b st)).bind fun d2 => (.ok (d1, d2) : EX (FrT × FrT))) = (oneE w E vp vb st x).bind fun d1 => (oneE w E vp vb st z).bind fun d2 => .ok (d1, d2) := by
  unfold oneE
  cases readE w E vp vb x with
  | error c => rfl
  | ok a =>
    simp only [Except.bind]
    cases dvO a st with
    | none => rfl
    | some d =>
      simp only [ofO]
      cases readE w E vp vb z with
      | error c => rfl
      | ok b => rfl
theorem enz_ends {u : FrT} {E : List FrT} {vp : Int} {vb : Bool} {g : FrT} {T : List ThT} {c : ShT} : ENZ (endsE u E vp vb g T c) := by
  unfold endsE
  exact enz_bind (enz_ofO _) fun _ => enz_bind (enz_ofO _) fun _ => enz_bind (enz_ofO _) fun _ => enz_bind (enz_warm _ _ _) fun _ => enz_bind (enz_read _ _ _ _ _) fun _ => enz_bind (enz_ofO _) fun _ => enz_bind (enz_read _ _ _ _ _) fun _ => enz_bind (enz_ofO _) fun _ => enz_ok _
/-- How far both readings come. -/
theorem ends_c (u : FrT) (E : List FrT) (vp : Int) (vb : Bool) (g : FrT) (T : List ThT) (c : ShT) :
    (enT T c = none ∧ endsE u E vp vb g T c = .error 3) ∨ ∃ e, enT T c = some e ∧
    ((stO g c.2.1 = none ∧ endsE u E vp vb g T c = .error 3) ∨ ∃ st, stO g c.2.1 = some st ∧
    ((sbO st (1, 1) = none ∧ endsE u E vp vb g T c = .error 3) ∨ ∃ y, sbO st (1, 1) = some y ∧
    ((∃ k, k ≠ 0 ∧ warmE u E y = .error k ∧ endsE u E vp vb g T c = .error k) ∨ ∃ w E', warmE u E y = .ok (w, E') ∧ endsE u E vp vb g T c = (oneE w E' vp vb st c.2.2).bind fun d1 => (oneE w E' vp vb st e).bind fun d2 => .ok (d1, d2)))) := by
  unfold endsE
  cases h1 : enT T c with
  | none => exact .inl ⟨rfl, rfl⟩
  | some e =>
    refine .inr ⟨e, rfl, ?_⟩
    cases h2 : stO g c.2.1 with
    | none => exact .inl ⟨rfl, rfl⟩
    | some st =>
      refine .inr ⟨st, rfl, ?_⟩
      cases h3 : sbO st (1, 1) with
      | none => exact .inl ⟨rfl, by simp only [ofO, Except.bind]; rw [h3]⟩
      | some y =>
        refine .inr ⟨y, rfl, ?_⟩
        cases h4 : warmE u E y with
        | error k => exact .inl ⟨k, enz_warm _ _ _ _ h4, rfl, by simp only [ofO, Except.bind]; rw [h3]; simp only; rw [h4]⟩
        | ok w =>
          obtain ⟨w, E'⟩ := w
          refine .inr ⟨w, E', rfl, ?_⟩
          rw [← ends_2]
          simp only [ofO, Except.bind]; rw [h3]; simp only; rw [h4]
theorem sh_e {m : Nat} {c : ShT} (h : shB m c = true) : (0 ≤ c.1 ∧ c.1 ≤ (m : Int) - 1) ∧ fOk c.2.1.1 c.2.1.2 = true ∧ (c.2.1.1.natAbs : Int) ≤ 100 * c.2.1.2 ∧ fOk c.2.2.1 c.2.2.2 = true := sh_at h
theorem en_f {T : List ThT} {c : ShT} {e : FrT} (h : enT T c = some e) : fOk e.1 e.2 = true := by
  unfold enT enO at h
  cases h1 : stO (thAt T c).2.2 c.2.1 with
  | none => rw [h1] at h; simp at h
  | some s =>
    rw [h1] at h
    simp only [Option.bind_some] at h
    cases h2 : muO (thAt T c).2.1 s with
    | none => rw [h2] at h; simp at h
    | some a => rw [h2] at h; exact rO_f h
theorem one_1 {w : FrT} {E : List FrT} {vp : Int} {vb : Bool} {st x : FrT} {c : Int} (h : readE w E vp vb x = .error c) : oneE w E vp vb st x = .error c := by unfold oneE; rw [h]; rfl
theorem one_2 {w : FrT} {E : List FrT} {vp : Int} {vb : Bool} {st x a : FrT} (h : readE w E vp vb x = .ok a) (h2 : dvO a st = none) : oneE w E vp vb st x = .error 3 := by unfold oneE; rw [h]; simp only [Except.bind]; rw [h2]; rfl
theorem one_3 {w : FrT} {E : List FrT} {vp : Int} {vb : Bool} {st x a d : FrT} (h : readE w E vp vb x = .ok a) (h2 : dvO a st = some d) : oneE w E vp vb st x = .ok d := by unfold oneE; rw [h]; simp only [Except.bind]; rw [h2]; rfl
theorem bad_1 {o : Option FrT} (h : (false || !o.isSome) = true) : o = none := by cases o <;> simp_all
theorem bad_0 {o : Option FrT} (h : (false || !o.isSome) = false) : ∃ d, o = some d := by cases o <;> simp_all
attribute [local irreducible] sbO muO adO dvO stO enT warmE readE endsE rdE bnB shB in
set_option maxHeartbeats 3200000 in
theorem ok_ReadEndsI : SpecOk Try.prog 9 s_rdends := by
  intro args S h; unfold s_rdends at h ⊢; (split at h <;> first | exact False.elim h | skip)
  dsimp only at h ⊢
  rename_i up uq s n x vp vb gp gq t m y0 i wp wq sp sq l wr T wT
  have hq := h
  have hL := seg_len h.1.1
  cases hok : (bnB up uq vp gp gq (seg l s n) (seg T t m) && shB m (i, (wp, wq), sp, sq)) with
  | false =>
    have hR : rdE false (up, uq) (seg l s n) vp vb (gp, gq) (seg T t m) (i, (wp, wq), sp, sq) = .error 1 := by unfold rdE; rfl
    rw [hR]
    have hcn : decide (okC (bnB up uq vp gp gq (seg l s n) (seg T t m) && shB m (i, (wp, wq), sp, sq)) (enT (seg T t m) (i, (wp, wq), sp, sq)) ≠ 0) = true := by rw [hok]; rfl
    refine funW tabOk (E := [(23, s_ends)]) ⟨ok_EndsOfI, trivial⟩ [(6, [(1, 1), (4, 0), (4, 1)]), (24, [(5, 1)])] (k := 2) (fn := Try.f9) rfl rfl rfl rfl rfl rfl ?_
    (repeat' ((try (conv => whnf)); first | (with_reducible first | refine And.intro ?_ ?_ | refine WX.of ?_) | exact zc | ((with_reducible refine VC.mk ?_); exact zw) | ((with_reducible refine splitT_of ?_ ?_); (focus (simp only [hcn, Bool.not_true, Bool.not_false, decide_true, decide_false]; done))) | ((with_reducible refine splitF_of ?_ ?_); (focus (simp only [hcn, Bool.not_true, Bool.not_false, decide_true, decide_false]; done))) | ((with_reducible refine VC.mk ?_); exact hq) | (with_reducible first | refine splitT ?_ | refine splitF ?_) | ((with_reducible refine splitM.mk (fun hsm => ?_) (fun hsm => ?_)) <;> (try exact zx)) | ((with_reducible refine splitB.mk (fun h => ?_) (fun h => ?_)) <;> (try simp only [zs, ne_eq] at h) <;> (try simp (disch := omega) only [w64] at h) <;> (try exact zx)) | (with_reducible intro hz; (try exact absurd hz (Nat.succ_ne_zero _)))))
    all_goals exact ⟨by rw [hok]; rfl⟩
  | true =>
    have hR : rdE true (up, uq) (seg l s n) vp vb (gp, gq) (seg T t m) (i, (wp, wq), sp, sq) = endsE (up, uq) (seg l s n) vp vb (gp, gq) (seg T t m) (i, (wp, wq), sp, sq) := by unfold rdE; rfl
    rw [hR]
    have hk2 := hok
    rw [Bool.and_eq_true] at hk2
    have hgg := bn_g hk2.1
    have hsh := sh_at hk2.2
    have hgs := smF_ok hgg.1
    have hws := smF_ok hsh.2.1
    have hcc := ends_c (up, uq) (seg l s n) vp vb (gp, gq) (seg T t m) (i, (wp, wq), sp, sq)
    dsimp only at hcc
    rcases hcc with ⟨he, hE⟩ | ⟨e, he, hcc⟩
    · rw [hE]
      have hcn : decide (okC (bnB up uq vp gp gq (seg l s n) (seg T t m) && shB m (i, (wp, wq), sp, sq)) (enT (seg T t m) (i, (wp, wq), sp, sq)) ≠ 0) = true := by rw [hok, he]; rfl
      refine funW tabOk (E := [(23, s_ends)]) ⟨ok_EndsOfI, trivial⟩ [(6, [(1, 1), (4, 0), (4, 1)]), (24, [(5, 1)])] (k := 2) (fn := Try.f9) rfl rfl rfl rfl rfl rfl ?_
      (repeat' ((try (conv => whnf)); first | (with_reducible first | refine And.intro ?_ ?_ | refine WX.of ?_) | exact zc | ((with_reducible refine VC.mk ?_); exact zw) | ((with_reducible refine splitT_of ?_ ?_); (focus (simp only [hcn, Bool.not_true, Bool.not_false, decide_true, decide_false]; done))) | ((with_reducible refine splitF_of ?_ ?_); (focus (simp only [hcn, Bool.not_true, Bool.not_false, decide_true, decide_false]; done))) | ((with_reducible refine VC.mk ?_); exact hq) | (with_reducible first | refine splitT ?_ | refine splitF ?_) | ((with_reducible refine splitM.mk (fun hsm => ?_) (fun hsm => ?_)) <;> (try exact zx)) | ((with_reducible refine splitB.mk (fun h => ?_) (fun h => ?_)) <;> (try simp only [zs, ne_eq] at h) <;> (try simp (disch := omega) only [w64] at h) <;> (try exact zx)) | (with_reducible intro hz; (try exact absurd hz (Nat.succ_ne_zero _)))))
      all_goals exact ⟨by rw [hok, he]; rfl⟩
    · rcases hcc with ⟨hs, hE⟩ | ⟨st, hs, hcc⟩
      · rw [hE]
        have hst := smF_st (gp, gq) (wp, wq)
        refine funW tabOk (E := [(23, (s_ends1 e)), (24, s_strO), (26, s_num), (25, s_subO)]) ⟨(ok_ends1 e), ok_strO, ok_num, ok_subO, trivial⟩ [(6, [(1, 1), (4, 0), (4, 1)]), (24, [(5, 1)])] (k := 2) (fn := Try.f9) rfl rfl rfl rfl rfl rfl ?_
        (repeat' ((try (conv => whnf)); first | (with_reducible first | refine And.intro ?_ ?_ | refine WX.of ?_) | exact zc | ((with_reducible refine VC.mk ?_); exact zw) | ((with_reducible refine VC.mk ?_); exact ⟨hq, hok, he⟩) | ((with_reducible refine VC.mk ?_); exact ⟨rfl, hgs, hws⟩) | ((with_reducible refine VC.mk ?_); exact ⟨rfl, hst, smF_1 (by omega)⟩) | ((with_reducible refine splitT_of ?_ ?_); (focus (rw [hs]; simp; done))) | (with_reducible first | refine splitT ?_ | refine splitF ?_) | ((with_reducible refine splitM.mk (fun hsm => ?_) (fun hsm => ?_)) <;> (try exact zx)) | ((with_reducible refine splitB.mk (fun h => ?_) (fun h => ?_)) <;> (try simp only [zs, ne_eq] at h) <;> (try simp (disch := omega) only [w64] at h) <;> (try exact zx)) | (with_reducible intro hz; (try exact absurd hz (Nat.succ_ne_zero _)))))
      · have hst := smF_ok (stO_f hs)
        rcases hcc with ⟨hb, hE⟩ | ⟨y, hb, hcc⟩
        · rw [hE]
          refine funW tabOk (E := [(23, (s_ends1 e)), (24, (s_strP st)), (26, s_num), (25, s_subO)]) ⟨(ok_ends1 e), (ok_strP st), ok_num, ok_subO, trivial⟩ [(6, [(1, 1), (4, 0), (4, 1)]), (24, [(5, 1)])] (k := 2) (fn := Try.f9) rfl rfl rfl rfl rfl rfl ?_
          (repeat' ((try (conv => whnf)); first | (with_reducible first | refine And.intro ?_ ?_ | refine WX.of ?_) | exact zc | ((with_reducible refine VC.mk ?_); exact zw) | ((with_reducible refine VC.mk ?_); exact ⟨hq, hok, he⟩) | ((with_reducible refine VC.mk ?_); exact ⟨⟨rfl, hgs, hws⟩, hs⟩) | ((with_reducible refine VC.mk ?_); exact ⟨rfl, hst, smF_1 (by omega)⟩) | ((with_reducible refine splitT_of ?_ ?_); (focus (rw [show sbO _ _ = none from hb]; simp; done))) | (with_reducible first | refine splitT ?_ | refine splitF ?_) | ((with_reducible refine splitM.mk (fun hsm => ?_) (fun hsm => ?_)) <;> (try exact zx)) | ((with_reducible refine splitB.mk (fun h => ?_) (fun h => ?_)) <;> (try simp only [zs, ne_eq] at h) <;> (try simp (disch := omega) only [w64] at h) <;> (try exact zx)) | (with_reducible intro hz; (try exact absurd hz (Nat.succ_ne_zero _)))))
        · have hy := okO_sb _ _ _ hb
          rcases hcc with ⟨k, hk0, hw, hE⟩ | ⟨w, E', hw, hE⟩
          · rw [hE]
            have hcn : decide (k ≠ 0) = true := decide_eq_true hk0
            refine funW tabOk (E := [(23, (s_ends1 e)), (24, (s_strP st)), (26, s_num), (25, (s_subP y)), (27, (s_warm0 k))]) ⟨(ok_ends1 e), (ok_strP st), ok_num, (ok_subP y), (ok_warm0I k), trivial⟩ [(6, [(1, 1), (4, 0), (4, 1)]), (24, [(5, 1)])] (k := 2) (fn := Try.f9) rfl rfl rfl rfl rfl rfl ?_
            (repeat' ((try (conv => whnf)); first | (with_reducible first | refine And.intro ?_ ?_ | refine WX.of ?_) | exact zc | ((with_reducible refine VC.mk ?_); exact zw) | ((with_reducible refine splitT_of ?_ ?_); (focus (simp only [hcn, Bool.not_true, Bool.not_false, decide_true, decide_false]; done))) | ((with_reducible refine splitF_of ?_ ?_); (focus (simp only [hcn, Bool.not_true, Bool.not_false, decide_true, decide_false]; done))) | ((with_reducible refine VC.mk ?_); exact ⟨hq, hok, he⟩) | ((with_reducible refine VC.mk ?_); exact ⟨⟨rfl, hgs, hws⟩, hs⟩) | ((with_reducible refine VC.mk ?_); exact ⟨⟨rfl, hst, smF_1 (by omega)⟩, hb⟩) | ((with_reducible refine VC.mk ?_); exact ⟨⟨hq.1.1, hgg.2.2.2.2, hy⟩, hw⟩) | (with_reducible first | refine splitT ?_ | refine splitF ?_) | ((with_reducible refine splitM.mk (fun hsm => ?_) (fun hsm => ?_)) <;> (try exact zx)) | ((with_reducible refine splitB.mk (fun h => ?_) (fun h => ?_)) <;> (try simp only [zs, ne_eq] at h) <;> (try simp (disch := omega) only [w64] at h) <;> (try exact zx)) | (with_reducible intro hz; (try exact absurd hz (Nat.succ_ne_zero _)))))
          · rw [hE]
            obtain ⟨f, hwo⟩ := (warm_ok hw).2
            have hE3 : E'.length = n := by rw [← hwo.2.2.2.2, wm_len, hL]
            have hE2 : seg E' 0 n = E' := seg_full hE3
            have hwsc := hwo.2.2.2.1
            have hE4 : 0 + n ≤ E'.length := by omega
            have hen := en_f he
            refine funW tabOk (E := [(23, (s_ends1 e)), (24, (s_strP st)), (26, s_num), (25, (s_subP y)), (27, (s_warm1 w E')), (28, (s_readQ w E')), (29, s_divO)]) ⟨(ok_ends1 e), (ok_strP st), ok_num, (ok_subP y), (ok_warm1I w E'), (ok_readQ w E'), ok_divO, trivial⟩ [(6, [(1, 1), (4, 0), (4, 1)]), (24, [(5, 1)])] (k := 2) (fn := Try.f9) rfl rfl rfl rfl rfl rfl ?_
            (repeat' ((try (conv => whnf)); first | (with_reducible first | refine And.intro ?_ ?_ | refine WX.of ?_) | exact zc | ((with_reducible refine VC.mk ?_); exact zw) | ((with_reducible refine VC.mk ?_); exact ⟨hq, hok, he⟩) | ((with_reducible refine VC.mk ?_); exact ⟨⟨rfl, hgs, hws⟩, hs⟩) | ((with_reducible refine VC.mk ?_); exact ⟨⟨rfl, hst, smF_1 (by omega)⟩, hb⟩) | ((with_reducible refine VC.mk ?_); exact ⟨⟨hq.1.1, hgg.2.2.2.2, hy⟩, hw⟩) | (with_reducible first | refine splitT ?_ | refine splitF ?_) | ((with_reducible refine splitM.mk (fun hsm => ?_) (fun hsm => ?_)) <;> (try exact zx)) | ((with_reducible refine splitB.mk (fun h => ?_) (fun h => ?_)) <;> (try simp only [zs, ne_eq] at h) <;> (try simp (disch := omega) only [w64] at h) <;> (try exact zx)) | (with_reducible intro hz; (try exact absurd hz (Nat.succ_ne_zero _)))))
            refine loopW tabOk (E := [(23, (s_ends1 e)), (24, (s_strP st)), (26, s_num), (25, (s_subP y)), (27, (s_warm1 w E')), (28, (s_readQ w E')), (29, s_divO)]) ⟨(ok_ends1 e), (ok_strP st), ok_num, (ok_subP y), (ok_warm1I w E'), (ok_readQ w E'), ok_divO, trivial⟩ [(6, [(1, 1), (4, 0), (4, 1)]), (24, [(5, 1)])] (σ := List FrT) (fun O => match O with | [] => [(2, .ptr 2 0 0), (4, .ptr 3 0 0), (5, .ptr 4 0 0), (10, .ptr 5 0 0), (11, .ptr 6 0 0), (13, .ptr 7 0 0), (14, .sl 9 0 0 0), (65, .sl 10 0 2 0), (66, .int .i64 2), (67, .int .i64 0)] | [_] => [(2, .ptr 2 0 0), (4, .ptr 3 0 0), (5, .ptr 4 0 0), (10, .ptr 5 0 0), (11, .ptr 6 0 0), (13, .ptr 7 0 0), (14, .sl 9 0 1 0), (65, .sl 10 0 2 0), (66, .int .i64 2), (67, .int .i64 1)] | _ => [(2, .ptr 2 0 0), (4, .ptr 3 0 0), (5, .ptr 4 0 0), (10, .ptr 5 0 0), (11, .ptr 6 0 0), (13, .ptr 7 0 0), (14, .sl 9 0 2 0), (65, .sl 10 0 2 0), (66, .int .i64 2), (67, .int .i64 2)]) (fun O => [.arr (.prod (.int .i64) (.int .i64)) l 2 wr, .arr (.prod .str (.prod (.prod (.int .i64) (.int .i64)) (.prod (.int .i64) (.int .i64)))) T 5 wT, .box [.int .i64 up, .int .i64 uq, .sl 0 s n x, .int .i64 vp, .bool vb, .int .i64 gp, .int .i64 gq, .sl 1 t m y0] true false, .arr (.prod (.int .i64) (.int .i64)) [(0, 0)] 0 true, .arr (.prod (.int .i64) (.int .i64)) [(0, 0)] 0 true, .arr .bool [false] 0 true, .arr (.prod (.int .i64) (.int .i64)) [st] 0 true, .box [.int .i64 w.1, .int .i64 w.2, .sl 8 0 n 0] true false, .arr (.prod (.int .i64) (.int .i64)) E' 2 true, .arr (.prod (.int .i64) (.int .i64)) O 2 true, .arr (.prod (.int .i64) (.int .i64)) [(sp, sq), e] 2 true]) (fun O => 2 - O.length) (fun O => O = [] ∨ (∃ d1, oneE w E' vp vb st (sp, sq) = .ok d1 ∧ O = [d1]) ∨ ∃ d1 d2, oneE w E' vp vb st (sp, sq) = .ok d1 ∧ oneE w E' vp vb st e = .ok d2 ∧ O = [d1, d2]) [] (.inl rfl) ?_ ?_
            · (repeat' ((try (conv => whnf)); first | (with_reducible first | refine And.intro ?_ ?_ | refine WX.of ?_) | exact zc | ((with_reducible refine VC.mk ?_); exact zw) | (with_reducible first | refine splitT ?_ | refine splitF ?_) | ((with_reducible refine splitM.mk (fun hsm => ?_) (fun hsm => ?_)) <;> (try exact zx)) | ((with_reducible refine splitB.mk (fun h => ?_) (fun h => ?_)) <;> (try simp only [zs, ne_eq] at h) <;> (try simp (disch := omega) only [w64] at h) <;> (try exact zx)) | (with_reducible intro hz; (try exact absurd hz (Nat.succ_ne_zero _)))))
            · intro O hO
              rcases hO with rfl | ⟨d1, h1, rfl⟩ | ⟨d1, d2, h1, h2, rfl⟩
              · (repeat' ((try (conv => whnf)); first | (with_reducible first | refine And.intro ?_ ?_ | refine WX.of ?_) | exact zc | ((with_reducible refine VC.mk ?_); exact zw) | ((with_reducible refine VC.mk ?_); exact ⟨⟨rfl, hE2⟩, hE4, hwsc, hgg.2.2.2.1, hsh.2.2.2⟩) | ((with_reducible refine VC.mk ?_); exact ⟨rfl, smF_ok (read_f (by assumption)), hst⟩) | ((with_reducible refine splitE (enz_read _ _ _ _ _) (fun c h => ?_) (fun a h => ?_)) <;> (rw [h])) | ((with_reducible refine splitT_of ?_ ?_); (focus (rfl))) | ((with_reducible refine splitF_of ?_ ?_); (focus (rfl))) | (with_reducible first | refine splitT ?_ | refine splitF ?_) | ((with_reducible refine splitM.mk (fun hsm => ?_) (fun hsm => ?_)) <;> (try exact zx)) | ((with_reducible refine splitB.mk (fun h => ?_) (fun h => ?_)) <;> (try simp only [zs, ne_eq] at h) <;> (try simp (disch := omega) only [w64] at h) <;> (try exact zx)) | (with_reducible intro hz; (try exact absurd hz (Nat.succ_ne_zero _)))))
                · rw [one_1 h]; exact ⟨rfl⟩
                · rename_i hr
                  rw [one_2 hr (bad_1 h)]; exact ⟨rfl⟩
                · rename_i hr
                  obtain ⟨d, hd⟩ := bad_0 h
                  refine ⟨[d], by simp, .inr (.inl ⟨d, one_3 hr hd, rfl⟩), ?_⟩
                  (repeat' ((try (conv => whnf)); first | (with_reducible first | refine And.intro ?_ ?_ | refine WX.of ?_) | exact zc | ((with_reducible refine VC.mk ?_); exact zw) | (with_reducible first | refine splitT ?_ | refine splitF ?_) | ((with_reducible refine splitM.mk (fun hsm => ?_) (fun hsm => ?_)) <;> (try exact zx)) | ((with_reducible refine splitB.mk (fun h => ?_) (fun h => ?_)) <;> (try simp only [zs, ne_eq] at h) <;> (try simp (disch := omega) only [w64] at h) <;> (try exact zx)) | (with_reducible intro hz; (try exact absurd hz (Nat.succ_ne_zero _)))))
                  · exact ⟨by rw [h]⟩
                  · exact ⟨by rw [show tv (dvO _ _) = d from congrArg tv hd]; rfl⟩
              · (repeat' ((try (conv => whnf)); first | (with_reducible first | refine And.intro ?_ ?_ | refine WX.of ?_) | exact zc | ((with_reducible refine VC.mk ?_); exact zw) | ((with_reducible refine VC.mk ?_); exact ⟨⟨rfl, hE2⟩, hE4, hwsc, hgg.2.2.2.1, hen⟩) | ((with_reducible refine VC.mk ?_); exact ⟨rfl, smF_ok (read_f (by assumption)), hst⟩) | ((with_reducible refine splitE (enz_read _ _ _ _ _) (fun c h => ?_) (fun a h => ?_)) <;> (rw [h])) | ((with_reducible refine splitT_of ?_ ?_); (focus (rfl))) | ((with_reducible refine splitF_of ?_ ?_); (focus (rfl))) | (with_reducible first | refine splitT ?_ | refine splitF ?_) | ((with_reducible refine splitM.mk (fun hsm => ?_) (fun hsm => ?_)) <;> (try exact zx)) | ((with_reducible refine splitB.mk (fun h => ?_) (fun h => ?_)) <;> (try simp only [zs, ne_eq] at h) <;> (try simp (disch := omega) only [w64] at h) <;> (try exact zx)) | (with_reducible intro hz; (try exact absurd hz (Nat.succ_ne_zero _)))))
                · rw [h1, one_1 h]; exact ⟨rfl⟩
                · rename_i hr
                  rw [h1, one_2 hr (bad_1 h)]; exact ⟨rfl⟩
                · rename_i hr
                  obtain ⟨d, hd⟩ := bad_0 h
                  refine ⟨[d1, d], by simp, .inr (.inr ⟨d1, d, h1, one_3 hr hd, rfl⟩), ?_⟩
                  (repeat' ((try (conv => whnf)); first | (with_reducible first | refine And.intro ?_ ?_ | refine WX.of ?_) | exact zc | ((with_reducible refine VC.mk ?_); exact zw) | (with_reducible first | refine splitT ?_ | refine splitF ?_) | ((with_reducible refine splitM.mk (fun hsm => ?_) (fun hsm => ?_)) <;> (try exact zx)) | ((with_reducible refine splitB.mk (fun h => ?_) (fun h => ?_)) <;> (try simp only [zs, ne_eq] at h) <;> (try simp (disch := omega) only [w64] at h) <;> (try exact zx)) | (with_reducible intro hz; (try exact absurd hz (Nat.succ_ne_zero _)))))
                  · exact ⟨by rw [h]⟩
                  · exact ⟨by rw [show tv (dvO _ _) = d from congrArg tv hd]; rfl⟩
              · rw [h1, h2]
                (repeat' ((try (conv => whnf)); first | (with_reducible first | refine And.intro ?_ ?_ | refine WX.of ?_) | exact zc | ((with_reducible refine VC.mk ?_); exact zw) | ((with_reducible refine splitT_of ?_ ?_); (focus (rfl))) | ((with_reducible refine splitF_of ?_ ?_); (focus (rfl))) | (with_reducible first | refine splitT ?_ | refine splitF ?_) | ((with_reducible refine splitM.mk (fun hsm => ?_) (fun hsm => ?_)) <;> (try exact zx)) | ((with_reducible refine splitB.mk (fun h => ?_) (fun h => ?_)) <;> (try simp only [zs, ne_eq] at h) <;> (try simp (disch := omega) only [w64] at h) <;> (try exact zx)) | (with_reducible intro hz; (try exact absurd hz (Nat.succ_ne_zero _)))))
end Go.Proofs.Ytbmejhabgoimeaa.Eng
set_option linter.unusedVariables false
set_option linter.unusedSimpArgs false
namespace Go.Proofs.Ytbmejhabgoimeaa.Eng
open Go Go.RowKit
set_option maxRecDepth 100000
def s_l07Ends1 (e : FrT) : Spec := fun args S => match args, S with
  | [.ptr 0 0 0, .ptr 1 0 0], [.box [.int .i64 up, .int .i64 uq, .sl 2 s n x, .int .i64 vp, .bool vb, .int .i64 gp, .int .i64 gq, .sl 3 t m y] true false, .arr (.prod (.int .i64) (.prod (.prod (.int .i64) (.int .i64)) (.prod (.int .i64) (.int .i64)))) [c] 0 true, .arr (.prod (.int .i64) (.int .i64)) l 2 wr, .arr (.prod .str (.prod (.prod (.int .i64) (.int .i64)) (.prod (.int .i64) (.int .i64)))) T 5 wT] => ⟨((t + m ≤ T.length ∧ m ≤ 1048576) ∧ bnB up uq vp gp gq (seg l s n) (seg T t m) = true ∧ shB m c = true) ∧ enT (seg T t m) c = some e, .tup [.agg [.int .i64 c.2.2.1, .int .i64 c.2.2.2], .agg [.int .i64 e.1, .int .i64 e.2], .int .i64 0], [.box [.int .i64 up, .int .i64 uq, .sl 2 s n x, .int .i64 vp, .bool vb, .int .i64 gp, .int .i64 gq, .sl 3 t m y] true false, .arr (.prod (.int .i64) (.prod (.prod (.int .i64) (.int .i64)) (.prod (.int .i64) (.int .i64)))) [c] 0 true, .arr (.prod (.int .i64) (.int .i64)) l 2 wr, .arr (.prod .str (.prod (.prod (.int .i64) (.int .i64)) (.prod (.int .i64) (.int .i64)))) T 5 wT]⟩
  | _, _ => noSpec
theorem ok_l07Ends1 (e : FrT) : SpecOk Try.prog 43 (s_l07Ends1 e) := by
  intro args S h; unfold s_l07Ends1 at h ⊢; (split at h <;> first | exact False.elim h | skip)
  dsimp only at h ⊢
  rename_i up uq s n x vp vb gp gq t m y c l wr T wT
  have h2 := ok_l07Ends [.ptr 0 0 0, .ptr 1 0 0] [.box [.int .i64 up, .int .i64 uq, .sl 2 s n x, .int .i64 vp, .bool vb, .int .i64 gp, .int .i64 gq, .sl 3 t m y] true false, .arr (.prod (.int .i64) (.prod (.prod (.int .i64) (.int .i64)) (.prod (.int .i64) (.int .i64)))) [c] 0 true, .arr (.prod (.int .i64) (.int .i64)) l 2 wr, .arr (.prod .str (.prod (.prod (.int .i64) (.int .i64)) (.prod (.int .i64) (.int .i64)))) T 5 wT] h.1
  simp only [s_l07Ends, h.2, oC, zv_s, if_true, Option.isSome_some] at h2
  exact h2
def s_stZP (v : FrT) : Spec := fun args S => match args, S with
  | [.agg [.int .i64 p, .int .i64 q], .agg [.int .i64 p', .int .i64 q']], [] => ⟨(smF p q ∧ smF p' q') ∧ stO (p, q) (p', q') = some v, .tup [.agg [.int .i64 v.1, .int .i64 v.2], .int .i64 0], []⟩
  | _, _ => noSpec
theorem ok_stZP (v : FrT) : SpecOk Try.prog 44 (s_stZP v) := by
  intro args S h; unfold s_stZP at h ⊢; (split at h <;> first | exact False.elim h | skip)
  dsimp only at h ⊢
  rename_i p q p' q'
  have h2 := ok_stZ [.agg [.int .i64 p, .int .i64 q], .agg [.int .i64 p', .int .i64 q']] [] h.1
  simp only [s_stZ, h.2, zv_s, oC, Option.isSome_some, if_true] at h2
  exact h2
def s_subZP (v : FrT) : Spec := fun args S => match args, S with
  | [.agg [.int .i64 p, .int .i64 q], .agg [.int .i64 p', .int .i64 q']], [] => ⟨(smF p q ∧ smF p' q') ∧ sbO (p, q) (p', q') = some v, .tup [.agg [.int .i64 v.1, .int .i64 v.2], .int .i64 0], []⟩
  | _, _ => noSpec
theorem ok_subZP (v : FrT) : SpecOk Try.prog 45 (s_subZP v) := by
  intro args S h; unfold s_subZP at h ⊢; (split at h <;> first | exact False.elim h | skip)
  dsimp only at h ⊢
  rename_i p q p' q'
  have h2 := ok_l01SubZ [.agg [.int .i64 p, .int .i64 q], .agg [.int .i64 p', .int .i64 q']] [] h.1
  simp only [s_subZ, h.2, zv_s, oC, Option.isSome_some, if_true] at h2
  exact h2
def s_l02ReadQ (u : FrT) (E : List FrT) : Spec := fun args S => match args, S with
  | [.ptr 0 0 0, .ptr 1 0 3, .agg [.int .i64 xp, .int .i64 xq]], [.box [.int .i64 up, .int .i64 uq, .sl 2 s n x] true false, .box [.int .i64 ap, .int .i64 aq, .sl 3 s' n' x', .int .i64 vp, .bool vb, .int .i64 gp, .int .i64 gq, .sl 4 t m y] true false, .arr (.prod (.int .i64) (.int .i64)) l 2 wr, .arr (.prod (.int .i64) (.int .i64)) l' 2 wr', .arr (.prod .str (.prod (.prod (.int .i64) (.int .i64)) (.prod (.int .i64) (.int .i64)))) T 5 wT] => ⟨((up, uq) = u ∧ seg l s n = E) ∧ s + n ≤ l.length ∧ scB up uq E = true ∧ (2 ≤ vp ∧ vp ≤ 40) ∧ smF xp xq, .tup [.agg [.int .i64 (eV (0, 0) (readE u E vp vb (xp, xq))).1, .int .i64 (eV (0, 0) (readE u E vp vb (xp, xq))).2], .int .i64 (eC (readE u E vp vb (xp, xq)))], [.box [.int .i64 up, .int .i64 uq, .sl 2 s n x] true false, .box [.int .i64 ap, .int .i64 aq, .sl 3 s' n' x', .int .i64 vp, .bool vb, .int .i64 gp, .int .i64 gq, .sl 4 t m y] true false, .arr (.prod (.int .i64) (.int .i64)) l 2 wr, .arr (.prod (.int .i64) (.int .i64)) l' 2 wr', .arr (.prod .str (.prod (.prod (.int .i64) (.int .i64)) (.prod (.int .i64) (.int .i64)))) T 5 wT]⟩
  | _, _ => noSpec
theorem ok_l02ReadQ (u : FrT) (E : List FrT) : SpecOk Try.prog 48 (s_l02ReadQ u E) := by
  intro args S h; unfold s_l02ReadQ at h ⊢; (split at h <;> first | exact False.elim h | skip)
  dsimp only at h ⊢
  obtain ⟨⟨rfl, rfl⟩, h⟩ := h
  exact ok_l02ReadV _ _ h
def s_l07Read : Spec := fun args S => match args, S with
  | [.ptr 0 0 0, .ptr 1 0 0], [.box [.int .i64 up, .int .i64 uq, .sl 2 s n x, .int .i64 vp, .bool vb, .int .i64 gp, .int .i64 gq, .sl 3 t m y] true false, .arr (.prod (.int .i64) (.prod (.prod (.int .i64) (.int .i64)) (.prod (.int .i64) (.int .i64)))) [c] 0 true, .arr (.prod (.int .i64) (.int .i64)) l 2 wr, .arr (.prod .str (.prod (.prod (.int .i64) (.int .i64)) (.prod (.int .i64) (.int .i64)))) T 5 wT] => ⟨((s + n ≤ l.length ∧ n ≤ 1048576) ∧ t + m ≤ T.length ∧ m ≤ 1048576) ∧ bnB up uq vp gp gq (seg l s n) (seg T t m) = true ∧ shB m c = true, .tup [.agg [.int .i64 (e2V (endsE (up, uq) (seg l s n) vp vb (gp, gq) (seg T t m) c)).1.1, .int .i64 (e2V (endsE (up, uq) (seg l s n) vp vb (gp, gq) (seg T t m) c)).1.2], .agg [.int .i64 (e2V (endsE (up, uq) (seg l s n) vp vb (gp, gq) (seg T t m) c)).2.1, .int .i64 (e2V (endsE (up, uq) (seg l s n) vp vb (gp, gq) (seg T t m) c)).2.2], .int .i64 (eC (endsE (up, uq) (seg l s n) vp vb (gp, gq) (seg T t m) c))], [.box [.int .i64 up, .int .i64 uq, .sl 2 s n x, .int .i64 vp, .bool vb, .int .i64 gp, .int .i64 gq, .sl 3 t m y] true false, .arr (.prod (.int .i64) (.prod (.prod (.int .i64) (.int .i64)) (.prod (.int .i64) (.int .i64)))) [c] 0 true, .arr (.prod (.int .i64) (.int .i64)) l 2 wr, .arr (.prod .str (.prod (.prod (.int .i64) (.int .i64)) (.prod (.int .i64) (.int .i64)))) T 5 wT]⟩
  | _, _ => noSpec
attribute [local irreducible] sbO muO adO dvO stO enT warmE readE endsE rdE bnB shB in
set_option maxHeartbeats 3200000 in
theorem ok_l07Read : SpecOk Try.prog 18 s_l07Read := by
  intro args S h; unfold s_l07Read at h ⊢; (split at h <;> first | exact False.elim h | skip)
  dsimp only at h ⊢
  rename_i up uq s n x vp vb gp gq t m y0 c l wr T wT
  obtain ⟨hq, hbn, hshb⟩ := h
  have hL := seg_len hq.1.1
  have hgg := bn_g hbn
  have hsh := sh_e hshb
  have hgs := smF_ok hgg.1
  have hws := smF_ok hsh.2.1
  rcases ends_c (up, uq) (seg l s n) vp vb (gp, gq) (seg T t m) c with ⟨he, hE⟩ | ⟨e, he, hcc⟩
  · rw [hE]
    have hcn : decide (oC (enT (seg T t m) c) ≠ 0) = true := by rw [he]; rfl
    refine funW tabOk (E := [(43, s_l07Ends)]) ⟨ok_l07Ends, trivial⟩ [(4, [(12, 0)]), (7, [(0, 1), (6, 0), (6, 1)]), (10, [(9, 0)]), (17, [(10, 0)]), (24, [(3, 1)])] (k := 4) (fn := Try.f18) rfl rfl rfl rfl rfl rfl ?_
    (repeat' ((try (conv => whnf)); first | (with_reducible first | refine And.intro ?_ ?_ | refine WX.of ?_) | exact zc | ((with_reducible refine VC.mk ?_); exact zw) | ((with_reducible refine splitT_of ?_ ?_); (focus (simp only [hcn, Bool.not_true, Bool.not_false, decide_true, decide_false]; done))) | ((with_reducible refine splitF_of ?_ ?_); (focus (simp only [hcn, Bool.not_true, Bool.not_false, decide_true, decide_false]; done))) | ((with_reducible refine VC.mk ?_); exact ⟨hq.2, hbn, hshb⟩) | (with_reducible first | refine splitT ?_ | refine splitF ?_) | ((with_reducible refine splitM.mk (fun hsm => ?_) (fun hsm => ?_)) <;> (try exact zx)) | ((with_reducible refine splitB.mk (fun h => ?_) (fun h => ?_)) <;> (try simp only [zs, ne_eq] at h) <;> (try simp (disch := omega) only [w64] at h) <;> (try exact zx)) | (with_reducible intro hz; (try exact absurd hz (Nat.succ_ne_zero _)))))
    all_goals exact ⟨by rw [he]; rfl⟩
  · rcases hcc with ⟨hs, hE⟩ | ⟨st, hs, hcc⟩
    · rw [hE]
      have hcn : decide (oC (stO (gp, gq) c.2.1) ≠ 0) = true := by rw [hs]; rfl
      refine funW tabOk (E := [(43, (s_l07Ends1 e)), (44, s_stZ)]) ⟨(ok_l07Ends1 e), ok_stZ, trivial⟩ [(4, [(12, 0)]), (7, [(0, 1), (6, 0), (6, 1)]), (10, [(9, 0)]), (17, [(10, 0)]), (24, [(3, 1)])] (k := 4) (fn := Try.f18) rfl rfl rfl rfl rfl rfl ?_
      (repeat' ((try (conv => whnf)); first | (with_reducible first | refine And.intro ?_ ?_ | refine WX.of ?_) | exact zc | ((with_reducible refine VC.mk ?_); exact zw) | ((with_reducible refine VC.mk ?_); exact ⟨⟨hq.2, hbn, hshb⟩, he⟩) | ((with_reducible refine VC.mk ?_); exact ⟨hgs, hws⟩) | ((with_reducible refine splitT_of ?_ ?_); (focus (simp only [hcn, pr_eta, Bool.not_true, Bool.not_false, decide_true, decide_false]; done))) | ((with_reducible refine splitF_of ?_ ?_); (focus (simp only [hcn, pr_eta, Bool.not_true, Bool.not_false, decide_true, decide_false]; done))) | (with_reducible first | refine splitT ?_ | refine splitF ?_) | ((with_reducible refine splitM.mk (fun hsm => ?_) (fun hsm => ?_)) <;> (try exact zx)) | ((with_reducible refine splitB.mk (fun h => ?_) (fun h => ?_)) <;> (try simp only [zs, ne_eq] at h) <;> (try simp (disch := omega) only [w64] at h) <;> (try exact zx)) | (with_reducible intro hz; (try exact absurd hz (Nat.succ_ne_zero _)))))
      all_goals exact ⟨by simp only [pr_eta]; rw [hs]; rfl⟩
    · have hst := smF_ok (stO_f hs)
      have hpos := st_pos hgg.2.1 hsh.2.1 hsh.2.2.1 hs
      rcases hcc with ⟨hb, hE⟩ | ⟨y, hb, hcc⟩
      · rw [hE]
        have hcn : decide (oC (sbO st (1, 1)) ≠ 0) = true := by rw [hb]; rfl
        refine funW tabOk (E := [(43, (s_l07Ends1 e)), (44, (s_stZP st)), (46, s_num), (45, s_subZ)]) ⟨(ok_l07Ends1 e), (ok_stZP st), ok_l01Whole, ok_l01SubZ, trivial⟩ [(4, [(12, 0)]), (7, [(0, 1), (6, 0), (6, 1)]), (10, [(9, 0)]), (17, [(10, 0)]), (24, [(3, 1)])] (k := 4) (fn := Try.f18) rfl rfl rfl rfl rfl rfl ?_
        (repeat' ((try (conv => whnf)); first | (with_reducible first | refine And.intro ?_ ?_ | refine WX.of ?_) | exact zc | ((with_reducible refine VC.mk ?_); exact zw) | ((with_reducible refine VC.mk ?_); exact ⟨⟨hq.2, hbn, hshb⟩, he⟩) | ((with_reducible refine VC.mk ?_); exact ⟨⟨hgs, hws⟩, hs⟩) | ((with_reducible refine VC.mk ?_); exact ⟨hst, smF_1 (by omega)⟩) | ((with_reducible refine splitT_of ?_ ?_); (focus (simp only [hcn, pr_eta, Bool.not_true, Bool.not_false, decide_true, decide_false]; done))) | ((with_reducible refine splitF_of ?_ ?_); (focus (simp only [hcn, pr_eta, Bool.not_true, Bool.not_false, decide_true, decide_false]; done))) | (with_reducible first | refine splitT ?_ | refine splitF ?_) | ((with_reducible refine splitM.mk (fun hsm => ?_) (fun hsm => ?_)) <;> (try exact zx)) | ((with_reducible refine splitB.mk (fun h => ?_) (fun h => ?_)) <;> (try simp only [zs, ne_eq] at h) <;> (try simp (disch := omega) only [w64] at h) <;> (try exact zx)) | (with_reducible intro hz; (try exact absurd hz (Nat.succ_ne_zero _)))))
        all_goals exact ⟨by simp only [pr_eta]; rw [hb]; rfl⟩
      · have hy := okO_sb _ _ _ hb
        rcases hcc with ⟨k, hk0, hw, hE⟩ | ⟨w, E', hw, hE⟩
        · rw [hE]
          have hcn : decide (k ≠ 0) = true := decide_eq_true hk0
          refine funW tabOk (E := [(43, (s_l07Ends1 e)), (44, (s_stZP st)), (46, s_num), (45, (s_subZP y)), (47, (s_warm0 k))]) ⟨(ok_l07Ends1 e), (ok_stZP st), ok_l01Whole, (ok_subZP y), (ok_warm0S k), trivial⟩ [(4, [(12, 0)]), (7, [(0, 1), (6, 0), (6, 1)]), (10, [(9, 0)]), (17, [(10, 0)]), (24, [(3, 1)])] (k := 4) (fn := Try.f18) rfl rfl rfl rfl rfl rfl ?_
          (repeat' ((try (conv => whnf)); first | (with_reducible first | refine And.intro ?_ ?_ | refine WX.of ?_) | exact zc | ((with_reducible refine VC.mk ?_); exact zw) | ((with_reducible refine splitT_of ?_ ?_); (focus (simp only [hcn, Bool.not_true, Bool.not_false, decide_true, decide_false]; done))) | ((with_reducible refine splitF_of ?_ ?_); (focus (simp only [hcn, Bool.not_true, Bool.not_false, decide_true, decide_false]; done))) | ((with_reducible refine VC.mk ?_); exact ⟨⟨hq.2, hbn, hshb⟩, he⟩) | ((with_reducible refine VC.mk ?_); exact ⟨⟨hgs, hws⟩, hs⟩) | ((with_reducible refine VC.mk ?_); exact ⟨⟨hst, smF_1 (by omega)⟩, hb⟩) | ((with_reducible refine VC.mk ?_); exact ⟨⟨hq.1.1, hgg.2.2.2.2, hy⟩, hw⟩) | (with_reducible first | refine splitT ?_ | refine splitF ?_) | ((with_reducible refine splitM.mk (fun hsm => ?_) (fun hsm => ?_)) <;> (try exact zx)) | ((with_reducible refine splitB.mk (fun h => ?_) (fun h => ?_)) <;> (try simp only [zs, ne_eq] at h) <;> (try simp (disch := omega) only [w64] at h) <;> (try exact zx)) | (with_reducible intro hz; (try exact absurd hz (Nat.succ_ne_zero _)))))
        · rw [hE]
          obtain ⟨f, hwo⟩ := (warm_ok hw).2
          have hE3 : E'.length = n := by rw [← hwo.2.2.2.2, wm_len, hL]
          have hE2 : seg E' 0 n = E' := seg_full hE3
          have hwsc := hwo.2.2.2.1
          have hE4 : 0 + n ≤ E'.length := by omega
          have hen := smF_ok (en_f he)
          have hbe := smF_ok hsh.2.2.2
          refine funW tabOk (E := [(43, (s_l07Ends1 e)), (44, (s_stZP st)), (46, s_num), (45, (s_subZP y)), (47, (s_warm1 w E')), (48, (s_l02ReadQ w E')), (49, s_divZ)]) ⟨(ok_l07Ends1 e), (ok_stZP st), ok_l01Whole, (ok_subZP y), (ok_warm1S w E'), (ok_l02ReadQ w E'), ok_l01DivZ, trivial⟩ [(4, [(12, 0)]), (7, [(0, 1), (6, 0), (6, 1)]), (10, [(9, 0)]), (17, [(10, 0)]), (24, [(3, 1)])] (k := 4) (fn := Try.f18) rfl rfl rfl rfl rfl rfl ?_
          (repeat' ((try (conv => whnf)); first | (with_reducible first | refine And.intro ?_ ?_ | refine WX.of ?_) | exact zc | ((with_reducible refine VC.mk ?_); exact zw) | ((with_reducible refine VC.mk ?_); exact ⟨⟨hq.2, hbn, hshb⟩, he⟩) | ((with_reducible refine VC.mk ?_); exact ⟨⟨hgs, hws⟩, hs⟩) | ((with_reducible refine VC.mk ?_); exact ⟨⟨hst, smF_1 (by omega)⟩, hb⟩) | ((with_reducible refine VC.mk ?_); exact ⟨⟨hq.1.1, hgg.2.2.2.2, hy⟩, hw⟩) | (with_reducible first | refine splitT ?_ | refine splitF ?_) | ((with_reducible refine splitM.mk (fun hsm => ?_) (fun hsm => ?_)) <;> (try exact zx)) | ((with_reducible refine splitB.mk (fun h => ?_) (fun h => ?_)) <;> (try simp only [zs, ne_eq] at h) <;> (try simp (disch := omega) only [w64] at h) <;> (try exact zx)) | (with_reducible intro hz; (try exact absurd hz (Nat.succ_ne_zero _)))))
          refine loopW tabOk (E := [(43, (s_l07Ends1 e)), (44, (s_stZP st)), (46, s_num), (45, (s_subZP y)), (47, (s_warm1 w E')), (48, (s_l02ReadQ w E')), (49, s_divZ)]) ⟨(ok_l07Ends1 e), (ok_stZP st), ok_l01Whole, (ok_subZP y), (ok_warm1S w E'), (ok_l02ReadQ w E'), ok_l01DivZ, trivial⟩ [(4, [(12, 0)]), (7, [(0, 1), (6, 0), (6, 1)]), (10, [(9, 0)]), (17, [(10, 0)]), (24, [(3, 1)])] (σ := List FrT) (fun O => match O with | [] => [(0, .ptr 0 0 0), (1, .ptr 1 0 0), (4, .ptr 4 0 0), (5, .ptr 5 0 0), (10, .ptr 6 0 0), (14, .ptr 7 0 0), (16, .ptr 9 0 0), (17, .int .i64 0)] | [_] => [(0, .ptr 0 0 0), (1, .ptr 1 0 0), (4, .ptr 4 0 0), (5, .ptr 5 0 0), (10, .ptr 6 0 0), (14, .ptr 7 0 0), (16, .ptr 9 0 0), (17, .int .i64 1)] | _ => [(0, .ptr 0 0 0), (1, .ptr 1 0 0), (4, .ptr 4 0 0), (5, .ptr 5 0 0), (10, .ptr 6 0 0), (14, .ptr 7 0 0), (16, .ptr 9 0 0), (17, .int .i64 2)]) (fun O => [.box [.int .i64 up, .int .i64 uq, .sl 2 s n x, .int .i64 vp, .bool vb, .int .i64 gp, .int .i64 gq, .sl 3 t m y0] true false, .arr (.prod (.int .i64) (.prod (.prod (.int .i64) (.int .i64)) (.prod (.int .i64) (.int .i64)))) [c] 0 true, .arr (.prod (.int .i64) (.int .i64)) l 2 wr, .arr (.prod .str (.prod (.prod (.int .i64) (.int .i64)) (.prod (.int .i64) (.int .i64)))) T 5 wT, .arr (.prod (.int .i64) (.int .i64)) [(0, 0)] 0 true, .arr (.prod (.int .i64) (.int .i64)) [(0, 0)] 0 true, .arr (.prod (.int .i64) (.int .i64)) [st] 0 true, .box [.int .i64 w.1, .int .i64 w.2, .sl 8 0 n 0] true false, .arr (.prod (.int .i64) (.int .i64)) E' 2 true, .arr (.prod (.int .i64) (.int .i64)) (match O with | [] => [c.2.2, e] | [d1] => [d1, e] | d1 :: d2 :: _ => [d1, d2]) 0 true]) (fun O => 2 - O.length) (fun O => O = [] ∨ (∃ d1, oneE w E' vp vb st c.2.2 = .ok d1 ∧ O = [d1]) ∨ ∃ d1 d2, oneE w E' vp vb st c.2.2 = .ok d1 ∧ oneE w E' vp vb st e = .ok d2 ∧ O = [d1, d2]) [] (.inl rfl) ?_ ?_
          · (repeat' ((try (conv => whnf)); first | (with_reducible first | refine And.intro ?_ ?_ | refine WX.of ?_) | exact zc | ((with_reducible refine VC.mk ?_); exact zw) | (with_reducible first | refine splitT ?_ | refine splitF ?_) | ((with_reducible refine splitM.mk (fun hsm => ?_) (fun hsm => ?_)) <;> (try exact zx)) | ((with_reducible refine splitB.mk (fun h => ?_) (fun h => ?_)) <;> (try simp only [zs, ne_eq] at h) <;> (try simp (disch := omega) only [w64] at h) <;> (try exact zx)) | (with_reducible intro hz; (try exact absurd hz (Nat.succ_ne_zero _)))))
          · intro O hO
            rcases hO with rfl | ⟨d1, h1, rfl⟩ | ⟨d1, d2, h1, h2, rfl⟩
            · (repeat' ((try (conv => whnf)); first | (with_reducible first | refine And.intro ?_ ?_ | refine WX.of ?_) | exact zc | ((with_reducible refine VC.mk ?_); exact zw) | ((with_reducible refine VC.mk ?_); exact ⟨⟨rfl, hE2⟩, hE4, hwsc, hgg.2.2.2.1, hbe⟩) | ((with_reducible refine VC.mk ?_); exact ⟨smF_ok (read_f (by assumption)), hst, (by omega)⟩) | ((with_reducible refine splitE (enz_read _ _ _ _ _) (fun c h => ?_) (fun a h => ?_)) <;> (rw [h])) | ((with_reducible refine splitO (by first  |  exact okO_sb _ _  |  exact okO_mu _ _  |  exact okO_ad _ _  |  exact okO_dv _ _  |  exact okO_bind _ _ fun _ => okO_ad _ _  |  exact okO_sb _ _) (fun h => ?_) (fun a b h hs => ?_)) <;> (try rw [h]) <;> (try simp only [zv_s] at h) <;> (try dsimp only at h)) | ((with_reducible refine splitT_of ?_ ?_); (focus (rfl))) | ((with_reducible refine splitF_of ?_ ?_); (focus (rfl))) | (with_reducible first | refine splitT ?_ | refine splitF ?_) | ((with_reducible refine splitM.mk (fun hsm => ?_) (fun hsm => ?_)) <;> (try exact zx)) | ((with_reducible refine splitB.mk (fun h => ?_) (fun h => ?_)) <;> (try simp only [zs, ne_eq] at h) <;> (try simp (disch := omega) only [w64] at h) <;> (try exact zx)) | (with_reducible intro hz; (try exact absurd hz (Nat.succ_ne_zero _)))))
              · rw [one_1 h]; exact ⟨rfl⟩
              · rename_i hr
                rw [one_2 hr h]; exact ⟨rfl⟩
              · rename_i hr
                refine ⟨[(a, b)], by simp, .inr (.inl ⟨(a, b), one_3 hr h, rfl⟩), ?_⟩
                (repeat' ((try (conv => whnf)); first | (with_reducible first | refine And.intro ?_ ?_ | refine WX.of ?_) | exact zc | ((with_reducible refine VC.mk ?_); exact zw) | (with_reducible first | refine splitT ?_ | refine splitF ?_) | ((with_reducible refine splitM.mk (fun hsm => ?_) (fun hsm => ?_)) <;> (try exact zx)) | ((with_reducible refine splitB.mk (fun h => ?_) (fun h => ?_)) <;> (try simp only [zs, ne_eq] at h) <;> (try simp (disch := omega) only [w64] at h) <;> (try exact zx)) | (with_reducible intro hz; (try exact absurd hz (Nat.succ_ne_zero _)))))
                all_goals trace_state
            · (repeat' ((try (conv => whnf)); first | (with_reducible first | refine And.intro ?_ ?_ | refine WX.of ?_) | exact zc | ((with_reducible refine VC.mk ?_); exact zw) | ((with_reducible refine VC.mk ?_); exact ⟨⟨rfl, hE2⟩, hE4, hwsc, hgg.2.2.2.1, hen⟩) | ((with_reducible refine VC.mk ?_); exact ⟨smF_ok (read_f (by assumption)), hst, (by omega)⟩) | ((with_reducible refine splitE (enz_read _ _ _ _ _) (fun c h => ?_) (fun a h => ?_)) <;> (rw [h])) | ((with_reducible refine splitO (by first  |  exact okO_sb _ _  |  exact okO_mu _ _  |  exact okO_ad _ _  |  exact okO_dv _ _  |  exact okO_bind _ _ fun _ => okO_ad _ _  |  exact okO_sb _ _) (fun h => ?_) (fun a b h hs => ?_)) <;> (try rw [h]) <;> (try simp only [zv_s] at h) <;> (try dsimp only at h)) | ((with_reducible refine splitT_of ?_ ?_); (focus (rfl))) | ((with_reducible refine splitF_of ?_ ?_); (focus (rfl))) | (with_reducible first | refine splitT ?_ | refine splitF ?_) | ((with_reducible refine splitM.mk (fun hsm => ?_) (fun hsm => ?_)) <;> (try exact zx)) | ((with_reducible refine splitB.mk (fun h => ?_) (fun h => ?_)) <;> (try simp only [zs, ne_eq] at h) <;> (try simp (disch := omega) only [w64] at h) <;> (try exact zx)) | (with_reducible intro hz; (try exact absurd hz (Nat.succ_ne_zero _)))))
              · rw [h1, one_1 h]; exact ⟨rfl⟩
              · rename_i hr
                rw [h1, one_2 hr h]; exact ⟨rfl⟩
              · rename_i hr
                refine ⟨[d1, (a, b)], by simp, .inr (.inr ⟨d1, (a, b), h1, one_3 hr h, rfl⟩), ?_⟩
                (repeat' ((try (conv => whnf)); first | (with_reducible first | refine And.intro ?_ ?_ | refine WX.of ?_) | exact zc | ((with_reducible refine VC.mk ?_); exact zw) | (with_reducible first | refine splitT ?_ | refine splitF ?_) | ((with_reducible refine splitM.mk (fun hsm => ?_) (fun hsm => ?_)) <;> (try exact zx)) | ((with_reducible refine splitB.mk (fun h => ?_) (fun h => ?_)) <;> (try simp only [zs, ne_eq] at h) <;> (try simp (disch := omega) only [w64] at h) <;> (try exact zx)) | (with_reducible intro hz; (try exact absurd hz (Nat.succ_ne_zero _)))))
                all_goals trace_state
            · rw [h1, h2]
              (repeat' ((try (conv => whnf)); first | (with_reducible first | refine And.intro ?_ ?_ | refine WX.of ?_) | exact zc | ((with_reducible refine VC.mk ?_); exact zw) | ((with_reducible refine splitT_of ?_ ?_); (focus (rfl))) | ((with_reducible refine splitF_of ?_ ?_); (focus (rfl))) | (with_reducible first | refine splitT ?_ | refine splitF ?_) | ((with_reducible refine splitM.mk (fun hsm => ?_) (fun hsm => ?_)) <;> (try exact zx)) | ((with_reducible refine splitB.mk (fun h => ?_) (fun h => ?_)) <;> (try simp only [zs, ne_eq] at h) <;> (try simp (disch := omega) only [w64] at h) <;> (try exact zx)) | (with_reducible intro hz; (try exact absurd hz (Nat.succ_ne_zero _)))))
end Go.Proofs.Ytbmejhabgoimeaa.Eng
set_option linter.unusedVariables false
set_option linter.unusedSimpArgs false
namespace Go.Proofs.Ytbmejhabgoimeaa.Eng
open Go Go.RowKit
set_option maxRecDepth 100000
/-- A report: the shot, both readings, the length, the span. -/
abbrev RpT : Type := ShT × FrT × FrT × FrT × FrT × FrT
def rp0 : RpT := ((0, (0, 0), (0, 0)), (0, 0), (0, 0), (0, 0), (0, 0), (0, 0))
def taE (u : FrT) (E : List FrT) (vp : Int) (vb : Bool) (g : FrT) (T : List ThT) (c : ShT) : EX RpT := (endsE u E vp vb g T c).bind fun r => (ofO (lnT g T c r.1 r.2)).bind fun len => (match opT u E vp g T c r.1 r.2 with | some o => .ok o | none => .error 3 : EX (FrT × FrT)).bind fun o => .ok (c, r.1, r.2, len, o.1, o.2)
def tkE (ok : Bool) (u : FrT) (E : List FrT) (vp : Int) (vb : Bool) (g : FrT) (T : List ThT) (c : ShT) : EX RpT := if ok = true then taE u E vp vb g T c else .error 1
def tkV (e : EX RpT) : RpT := eV rp0 e
theorem okO_ln2 (g : FrT) (T : List ThT) (c : ShT) (f k : FrT) : OkO (lnT g T c f k) := okO_bind _ _ fun _ => okO_bk _ _ _ _
/-- How far a report comes. -/
theorem ta_c (u : FrT) (E : List FrT) (vp : Int) (vb : Bool) (g : FrT) (T : List ThT) (c : ShT) :
    (∃ k, k ≠ 0 ∧ endsE u E vp vb g T c = .error k ∧ taE u E vp vb g T c = .error k) ∨ ∃ d1 d2, endsE u E vp vb g T c = .ok (d1, d2) ∧
    ((lnT g T c d1 d2 = none ∧ taE u E vp vb g T c = .error 3) ∨ ∃ len, lnT g T c d1 d2 = some len ∧
    ((opT u E vp g T c d1 d2 = none ∧ taE u E vp vb g T c = .error 3) ∨ ∃ a b, opT u E vp g T c d1 d2 = some (a, b) ∧ taE u E vp vb g T c = .ok (c, d1, d2, len, a, b))) := by
  unfold taE
  cases h1 : endsE u E vp vb g T c with
  | error k => exact .inl ⟨k, enz_ends _ h1, rfl, rfl⟩
  | ok r =>
    obtain ⟨d1, d2⟩ := r
    refine .inr ⟨d1, d2, rfl, ?_⟩
    cases h2 : lnT g T c d1 d2 with
    | none => exact .inl ⟨rfl, by simp only [Except.bind]; rw [h2]; rfl⟩
    | some len =>
      refine .inr ⟨len, rfl, ?_⟩
      cases h3 : opT u E vp g T c d1 d2 with
      | none => exact .inl ⟨rfl, by simp only [Except.bind]; rw [h2, h3]; rfl⟩
      | some o =>
        obtain ⟨a, b⟩ := o
        exact .inr ⟨a, b, rfl, by simp only [Except.bind]; rw [h2, h3]; rfl⟩
theorem one_f {w : FrT} {E : List FrT} {vp : Int} {vb : Bool} {st x d : FrT} (h : oneE w E vp vb st x = .ok d) : fOk d.1 d.2 = true := by
  unfold oneE at h
  cases h1 : readE w E vp vb x with
  | error c => rw [h1] at h; cases h
  | ok a =>
    rw [h1] at h
    simp only [Except.bind] at h
    cases h2 : dvO a st with
    | none => rw [h2] at h; cases h
    | some v => rw [h2] at h; cases h; exact dv_f h2
theorem ends_f {u : FrT} {E : List FrT} {vp : Int} {vb : Bool} {g : FrT} {T : List ThT} {c : ShT} {d1 d2 : FrT} (h : endsE u E vp vb g T c = .ok (d1, d2)) : fOk d1.1 d1.2 = true ∧ fOk d2.1 d2.2 = true := by
  rcases ends_c u E vp vb g T c with ⟨_, hE⟩ | ⟨e, _, hcc⟩
  · rw [hE] at h; cases h
  · rcases hcc with ⟨_, hE⟩ | ⟨st, _, hcc⟩
    · rw [hE] at h; cases h
    · rcases hcc with ⟨_, hE⟩ | ⟨y, _, hcc⟩
      · rw [hE] at h; cases h
      · rcases hcc with ⟨k, _, _, hE⟩ | ⟨w, E', _, hE⟩
        · rw [hE] at h; cases h
        · rw [hE] at h
          cases h1 : oneE w E' vp vb st c.2.2 with
          | error c => rw [h1] at h; cases h
          | ok a =>
            rw [h1] at h
            simp only [Except.bind] at h
            cases h2 : oneE w E' vp vb st e with
            | error c => rw [h2] at h; cases h
            | ok b => rw [h2] at h; cases h; exact ⟨one_f h1, one_f h2⟩
/-- What the calls answer, known beforehand. -/
def s_rd1 (d1 d2 : FrT) : Spec := fun args S => match args, S with
  | [.agg [.int .i64 up, .int .i64 uq, .sl 0 s n x, .int .i64 vp, .bool vb, .int .i64 gp, .int .i64 gq, .sl 1 t m y], .agg [.int .i64 i, .int .i64 wp, .int .i64 wq, .int .i64 sp, .int .i64 sq]], [.arr (.prod (.int .i64) (.int .i64)) l 2 wr, .arr (.prod .str (.prod (.prod (.int .i64) (.int .i64)) (.prod (.int .i64) (.int .i64)))) T 5 wT] => ⟨((s + n ≤ l.length ∧ n ≤ 1048576) ∧ (t + m ≤ T.length ∧ m ≤ 1048576) ∧ ∀ (j : Nat) (a : ThT), T[j]? = some a → a.1.length < 9223372036854775808) ∧ (bnB up uq vp gp gq (seg l s n) (seg T t m) && shB m (i, (wp, wq), sp, sq)) = true ∧ endsE (up, uq) (seg l s n) vp vb (gp, gq) (seg T t m) (i, (wp, wq), sp, sq) = .ok (d1, d2), .tup [.agg [.int .i64 d1.1, .int .i64 d1.2], .agg [.int .i64 d2.1, .int .i64 d2.2], .int .i64 0], [.arr (.prod (.int .i64) (.int .i64)) l 2 wr, .arr (.prod .str (.prod (.prod (.int .i64) (.int .i64)) (.prod (.int .i64) (.int .i64)))) T 5 wT]⟩
  | _, _ => noSpec
theorem ok_rd1 (d1 d2 : FrT) : SpecOk Try.prog 9 (s_rd1 d1 d2) := by
  intro args S h; unfold s_rd1 at h ⊢; (split at h <;> first | exact False.elim h | skip)
  dsimp only at h ⊢
  rename_i up uq s n x vp vb gp gq t m y i wp wq sp sq l wr T wT
  have h2 := ok_ReadEndsI [.agg [.int .i64 up, .int .i64 uq, .sl 0 s n x, .int .i64 vp, .bool vb, .int .i64 gp, .int .i64 gq, .sl 1 t m y], .agg [.int .i64 i, .int .i64 wp, .int .i64 wq, .int .i64 sp, .int .i64 sq]] [.arr (.prod (.int .i64) (.int .i64)) l 2 wr, .arr (.prod .str (.prod (.prod (.int .i64) (.int .i64)) (.prod (.int .i64) (.int .i64)))) T 5 wT] h.1
  simp only [s_rdends, h.2.1, rdE, if_true, h.2.2, e2V, eV, eC] at h2
  exact h2
def s_rd0 (k : Int) : Spec := fun args S => match args, S with
  | [.agg [.int .i64 up, .int .i64 uq, .sl 0 s n x, .int .i64 vp, .bool vb, .int .i64 gp, .int .i64 gq, .sl 1 t m y], .agg [.int .i64 i, .int .i64 wp, .int .i64 wq, .int .i64 sp, .int .i64 sq]], [.arr (.prod (.int .i64) (.int .i64)) l 2 wr, .arr (.prod .str (.prod (.prod (.int .i64) (.int .i64)) (.prod (.int .i64) (.int .i64)))) T 5 wT] => ⟨((s + n ≤ l.length ∧ n ≤ 1048576) ∧ (t + m ≤ T.length ∧ m ≤ 1048576) ∧ ∀ (j : Nat) (a : ThT), T[j]? = some a → a.1.length < 9223372036854775808) ∧ rdE (bnB up uq vp gp gq (seg l s n) (seg T t m) && shB m (i, (wp, wq), sp, sq)) (up, uq) (seg l s n) vp vb (gp, gq) (seg T t m) (i, (wp, wq), sp, sq) = .error k, .tup [.agg [.int .i64 0, .int .i64 0], .agg [.int .i64 0, .int .i64 0], .int .i64 k], [.arr (.prod (.int .i64) (.int .i64)) l 2 wr, .arr (.prod .str (.prod (.prod (.int .i64) (.int .i64)) (.prod (.int .i64) (.int .i64)))) T 5 wT]⟩
  | _, _ => noSpec
theorem ok_rd0 (k : Int) : SpecOk Try.prog 9 (s_rd0 k) := by
  intro args S h; unfold s_rd0 at h ⊢; (split at h <;> first | exact False.elim h | skip)
  dsimp only at h ⊢
  rename_i up uq s n x vp vb gp gq t m y i wp wq sp sq l wr T wT
  have h2 := ok_ReadEndsI [.agg [.int .i64 up, .int .i64 uq, .sl 0 s n x, .int .i64 vp, .bool vb, .int .i64 gp, .int .i64 gq, .sl 1 t m y], .agg [.int .i64 i, .int .i64 wp, .int .i64 wq, .int .i64 sp, .int .i64 sq]] [.arr (.prod (.int .i64) (.int .i64)) l 2 wr, .arr (.prod .str (.prod (.prod (.int .i64) (.int .i64)) (.prod (.int .i64) (.int .i64)))) T 5 wT] h.1
  simp only [s_rdends, h.2, e2V, eV, eC] at h2
  exact h2
def s_len1 (v : FrT) : Spec := fun args S => match args, S with
  | [.agg [.int .i64 up, .int .i64 uq, .sl 0 s n x, .int .i64 vp, .bool vb, .int .i64 gp, .int .i64 gq, .sl 1 t m y], .agg [.int .i64 i, .int .i64 wp, .int .i64 wq, .int .i64 sp, .int .i64 sq], .agg [.int .i64 fp, .int .i64 fq], .agg [.int .i64 kp, .int .i64 kq]], [.arr (.prod (.int .i64) (.int .i64)) l 2 wr, .arr (.prod .str (.prod (.prod (.int .i64) (.int .i64)) (.prod (.int .i64) (.int .i64)))) T 5 wT] => ⟨((s + n ≤ l.length ∧ n ≤ 1048576) ∧ (t + m ≤ T.length ∧ m ≤ 1048576) ∧ ∀ (j : Nat) (a : ThT), T[j]? = some a → a.1.length < 9223372036854775808) ∧ (bnB up uq vp gp gq (seg l s n) (seg T t m) && shB m (i, (wp, wq), sp, sq)) = true ∧ (fOk fp fq = true ∧ fOk kp kq = true) ∧ lnT (gp, gq) (seg T t m) (i, (wp, wq), sp, sq) (fp, fq) (kp, kq) = some v, .tup [.agg [.int .i64 v.1, .int .i64 v.2], .int .i64 0], [.arr (.prod (.int .i64) (.int .i64)) l 2 wr, .arr (.prod .str (.prod (.prod (.int .i64) (.int .i64)) (.prod (.int .i64) (.int .i64)))) T 5 wT]⟩
  | _, _ => noSpec
theorem ok_len1 (v : FrT) : SpecOk Try.prog 33 (s_len1 v) := by
  intro args S h; unfold s_len1 at h ⊢; (split at h <;> first | exact False.elim h | skip)
  dsimp only at h ⊢
  rename_i up uq s n x vp vb gp gq t m y i wp wq sp sq fp fq kp kq l wr T wT
  have h2 := ok_LengthFromI [.agg [.int .i64 up, .int .i64 uq, .sl 0 s n x, .int .i64 vp, .bool vb, .int .i64 gp, .int .i64 gq, .sl 1 t m y], .agg [.int .i64 i, .int .i64 wp, .int .i64 wq, .int .i64 sp, .int .i64 sq], .agg [.int .i64 fp, .int .i64 fq], .agg [.int .i64 kp, .int .i64 kq]] [.arr (.prod (.int .i64) (.int .i64)) l 2 wr, .arr (.prod .str (.prod (.prod (.int .i64) (.int .i64)) (.prod (.int .i64) (.int .i64)))) T 5 wT] h.1
  simp only [s_len, h.2.1, h.2.2.1.1, h.2.2.1.2, h.2.2.2, okC, oC, zv_s, Option.isSome_some, Bool.and_true, if_true] at h2
  exact h2
def s_len0 : Spec := fun args S => match args, S with
  | [.agg [.int .i64 up, .int .i64 uq, .sl 0 s n x, .int .i64 vp, .bool vb, .int .i64 gp, .int .i64 gq, .sl 1 t m y], .agg [.int .i64 i, .int .i64 wp, .int .i64 wq, .int .i64 sp, .int .i64 sq], .agg [.int .i64 fp, .int .i64 fq], .agg [.int .i64 kp, .int .i64 kq]], [.arr (.prod (.int .i64) (.int .i64)) l 2 wr, .arr (.prod .str (.prod (.prod (.int .i64) (.int .i64)) (.prod (.int .i64) (.int .i64)))) T 5 wT] => ⟨((s + n ≤ l.length ∧ n ≤ 1048576) ∧ (t + m ≤ T.length ∧ m ≤ 1048576) ∧ ∀ (j : Nat) (a : ThT), T[j]? = some a → a.1.length < 9223372036854775808) ∧ (bnB up uq vp gp gq (seg l s n) (seg T t m) && shB m (i, (wp, wq), sp, sq)) = true ∧ (fOk fp fq = true ∧ fOk kp kq = true) ∧ lnT (gp, gq) (seg T t m) (i, (wp, wq), sp, sq) (fp, fq) (kp, kq) = none, .tup [.agg [.int .i64 0, .int .i64 0], .int .i64 3], [.arr (.prod (.int .i64) (.int .i64)) l 2 wr, .arr (.prod .str (.prod (.prod (.int .i64) (.int .i64)) (.prod (.int .i64) (.int .i64)))) T 5 wT]⟩
  | _, _ => noSpec
theorem ok_len0 : SpecOk Try.prog 33 s_len0 := by
  intro args S h; unfold s_len0 at h ⊢; (split at h <;> first | exact False.elim h | skip)
  dsimp only at h ⊢
  rename_i up uq s n x vp vb gp gq t m y i wp wq sp sq fp fq kp kq l wr T wT
  have h2 := ok_LengthFromI [.agg [.int .i64 up, .int .i64 uq, .sl 0 s n x, .int .i64 vp, .bool vb, .int .i64 gp, .int .i64 gq, .sl 1 t m y], .agg [.int .i64 i, .int .i64 wp, .int .i64 wq, .int .i64 sp, .int .i64 sq], .agg [.int .i64 fp, .int .i64 fq], .agg [.int .i64 kp, .int .i64 kq]] [.arr (.prod (.int .i64) (.int .i64)) l 2 wr, .arr (.prod .str (.prod (.prod (.int .i64) (.int .i64)) (.prod (.int .i64) (.int .i64)))) T 5 wT] h.1
  simp only [s_len, h.2.1, h.2.2.1.1, h.2.2.1.2, h.2.2.2, okC, oC, Option.isSome_none, Bool.and_true, if_true, Bool.false_eq_true, if_false, show ¬ (3 : Int) = 0 by decide] at h2
  exact h2
def s_op1 (a b : FrT) : Spec := fun args S => match args, S with
  | [.agg [.int .i64 up, .int .i64 uq, .sl 0 s n x, .int .i64 vp, .bool vb, .int .i64 gp, .int .i64 gq, .sl 1 t m y], .agg [.int .i64 i, .int .i64 wp, .int .i64 wq, .int .i64 sp, .int .i64 sq], .agg [.int .i64 fp, .int .i64 fq], .agg [.int .i64 kp, .int .i64 kq]], [.arr (.prod (.int .i64) (.int .i64)) l 2 wr, .arr (.prod .str (.prod (.prod (.int .i64) (.int .i64)) (.prod (.int .i64) (.int .i64)))) T 5 wT] => ⟨((s + n ≤ l.length ∧ n ≤ 1048576) ∧ (t + m ≤ T.length ∧ m ≤ 1048576) ∧ ∀ (j : Nat) (a : ThT), T[j]? = some a → a.1.length < 9223372036854775808) ∧ (bnB up uq vp gp gq (seg l s n) (seg T t m) && shB m (i, (wp, wq), sp, sq)) = true ∧ (fOk fp fq = true ∧ fOk kp kq = true) ∧ opT (up, uq) (seg l s n) vp (gp, gq) (seg T t m) (i, (wp, wq), sp, sq) (fp, fq) (kp, kq) = some (a, b), .tup [.agg [.int .i64 a.1, .int .i64 a.2, .int .i64 b.1, .int .i64 b.2], .int .i64 0], [.arr (.prod (.int .i64) (.int .i64)) l 2 wr, .arr (.prod .str (.prod (.prod (.int .i64) (.int .i64)) (.prod (.int .i64) (.int .i64)))) T 5 wT]⟩
  | _, _ => noSpec
theorem ok_op1 (a b : FrT) : SpecOk Try.prog 34 (s_op1 a b) := by
  intro args S h; unfold s_op1 at h ⊢; (split at h <;> first | exact False.elim h | skip)
  dsimp only at h ⊢
  rename_i up uq s n x vp vb gp gq t m y i wp wq sp sq fp fq kp kq l wr T wT
  have h2 := ok_OpenSpanI [.agg [.int .i64 up, .int .i64 uq, .sl 0 s n x, .int .i64 vp, .bool vb, .int .i64 gp, .int .i64 gq, .sl 1 t m y], .agg [.int .i64 i, .int .i64 wp, .int .i64 wq, .int .i64 sp, .int .i64 sq], .agg [.int .i64 fp, .int .i64 fq], .agg [.int .i64 kp, .int .i64 kq]] [.arr (.prod (.int .i64) (.int .i64)) l 2 wr, .arr (.prod .str (.prod (.prod (.int .i64) (.int .i64)) (.prod (.int .i64) (.int .i64)))) T 5 wT] h.1
  simp only [s_open, h.2.1, h.2.2.1.1, h.2.2.1.2, h.2.2.2, okS, oS, z2, Option.getD_some, Option.isSome_some, Bool.and_true, if_true] at h2
  exact h2
def s_op0 : Spec := fun args S => match args, S with
  | [.agg [.int .i64 up, .int .i64 uq, .sl 0 s n x, .int .i64 vp, .bool vb, .int .i64 gp, .int .i64 gq, .sl 1 t m y], .agg [.int .i64 i, .int .i64 wp, .int .i64 wq, .int .i64 sp, .int .i64 sq], .agg [.int .i64 fp, .int .i64 fq], .agg [.int .i64 kp, .int .i64 kq]], [.arr (.prod (.int .i64) (.int .i64)) l 2 wr, .arr (.prod .str (.prod (.prod (.int .i64) (.int .i64)) (.prod (.int .i64) (.int .i64)))) T 5 wT] => ⟨((s + n ≤ l.length ∧ n ≤ 1048576) ∧ (t + m ≤ T.length ∧ m ≤ 1048576) ∧ ∀ (j : Nat) (a : ThT), T[j]? = some a → a.1.length < 9223372036854775808) ∧ (bnB up uq vp gp gq (seg l s n) (seg T t m) && shB m (i, (wp, wq), sp, sq)) = true ∧ (fOk fp fq = true ∧ fOk kp kq = true) ∧ opT (up, uq) (seg l s n) vp (gp, gq) (seg T t m) (i, (wp, wq), sp, sq) (fp, fq) (kp, kq) = none, .tup [.agg [.int .i64 0, .int .i64 0, .int .i64 0, .int .i64 0], .int .i64 3], [.arr (.prod (.int .i64) (.int .i64)) l 2 wr, .arr (.prod .str (.prod (.prod (.int .i64) (.int .i64)) (.prod (.int .i64) (.int .i64)))) T 5 wT]⟩
  | _, _ => noSpec
theorem ok_op0 : SpecOk Try.prog 34 s_op0 := by
  intro args S h; unfold s_op0 at h ⊢; (split at h <;> first | exact False.elim h | skip)
  dsimp only at h ⊢
  rename_i up uq s n x vp vb gp gq t m y i wp wq sp sq fp fq kp kq l wr T wT
  have h2 := ok_OpenSpanI [.agg [.int .i64 up, .int .i64 uq, .sl 0 s n x, .int .i64 vp, .bool vb, .int .i64 gp, .int .i64 gq, .sl 1 t m y], .agg [.int .i64 i, .int .i64 wp, .int .i64 wq, .int .i64 sp, .int .i64 sq], .agg [.int .i64 fp, .int .i64 fq], .agg [.int .i64 kp, .int .i64 kq]] [.arr (.prod (.int .i64) (.int .i64)) l 2 wr, .arr (.prod .str (.prod (.prod (.int .i64) (.int .i64)) (.prod (.int .i64) (.int .i64)))) T 5 wT] h.1
  simp only [s_open, h.2.1, h.2.2.1.1, h.2.2.1.2, h.2.2.2, okS, oS, Option.isSome_none, Bool.and_true, if_true, Bool.false_eq_true, if_false, show ¬ (3 : Int) = 0 by decide] at h2
  exact h2
def s_take : Spec := fun args S => match args, S with
  | [.agg [.int .i64 up, .int .i64 uq, .sl 0 s n x, .int .i64 vp, .bool vb, .int .i64 gp, .int .i64 gq, .sl 1 t m y], .agg [.int .i64 i, .int .i64 wp, .int .i64 wq, .int .i64 sp, .int .i64 sq]], [.arr (.prod (.int .i64) (.int .i64)) l 2 wr, .arr (.prod .str (.prod (.prod (.int .i64) (.int .i64)) (.prod (.int .i64) (.int .i64)))) T 5 wT] => ⟨(s + n ≤ l.length ∧ n ≤ 1048576) ∧ (t + m ≤ T.length ∧ m ≤ 1048576) ∧ ∀ (j : Nat) (a : ThT), T[j]? = some a → a.1.length < 9223372036854775808, .tup [.agg [.int .i64 (tkV (tkE (bnB up uq vp gp gq (seg l s n) (seg T t m) && shB m (i, (wp, wq), sp, sq)) (up, uq) (seg l s n) vp vb (gp, gq) (seg T t m) (i, (wp, wq), sp, sq))).1.1, .int .i64 (tkV (tkE (bnB up uq vp gp gq (seg l s n) (seg T t m) && shB m (i, (wp, wq), sp, sq)) (up, uq) (seg l s n) vp vb (gp, gq) (seg T t m) (i, (wp, wq), sp, sq))).1.2.1.1, .int .i64 (tkV (tkE (bnB up uq vp gp gq (seg l s n) (seg T t m) && shB m (i, (wp, wq), sp, sq)) (up, uq) (seg l s n) vp vb (gp, gq) (seg T t m) (i, (wp, wq), sp, sq))).1.2.1.2, .int .i64 (tkV (tkE (bnB up uq vp gp gq (seg l s n) (seg T t m) && shB m (i, (wp, wq), sp, sq)) (up, uq) (seg l s n) vp vb (gp, gq) (seg T t m) (i, (wp, wq), sp, sq))).1.2.2.1, .int .i64 (tkV (tkE (bnB up uq vp gp gq (seg l s n) (seg T t m) && shB m (i, (wp, wq), sp, sq)) (up, uq) (seg l s n) vp vb (gp, gq) (seg T t m) (i, (wp, wq), sp, sq))).1.2.2.2, .int .i64 (tkV (tkE (bnB up uq vp gp gq (seg l s n) (seg T t m) && shB m (i, (wp, wq), sp, sq)) (up, uq) (seg l s n) vp vb (gp, gq) (seg T t m) (i, (wp, wq), sp, sq))).2.1.1, .int .i64 (tkV (tkE (bnB up uq vp gp gq (seg l s n) (seg T t m) && shB m (i, (wp, wq), sp, sq)) (up, uq) (seg l s n) vp vb (gp, gq) (seg T t m) (i, (wp, wq), sp, sq))).2.1.2, .int .i64 (tkV (tkE (bnB up uq vp gp gq (seg l s n) (seg T t m) && shB m (i, (wp, wq), sp, sq)) (up, uq) (seg l s n) vp vb (gp, gq) (seg T t m) (i, (wp, wq), sp, sq))).2.2.1.1, .int .i64 (tkV (tkE (bnB up uq vp gp gq (seg l s n) (seg T t m) && shB m (i, (wp, wq), sp, sq)) (up, uq) (seg l s n) vp vb (gp, gq) (seg T t m) (i, (wp, wq), sp, sq))).2.2.1.2, .int .i64 (tkV (tkE (bnB up uq vp gp gq (seg l s n) (seg T t m) && shB m (i, (wp, wq), sp, sq)) (up, uq) (seg l s n) vp vb (gp, gq) (seg T t m) (i, (wp, wq), sp, sq))).2.2.2.1.1, .int .i64 (tkV (tkE (bnB up uq vp gp gq (seg l s n) (seg T t m) && shB m (i, (wp, wq), sp, sq)) (up, uq) (seg l s n) vp vb (gp, gq) (seg T t m) (i, (wp, wq), sp, sq))).2.2.2.1.2, .int .i64 (tkV (tkE (bnB up uq vp gp gq (seg l s n) (seg T t m) && shB m (i, (wp, wq), sp, sq)) (up, uq) (seg l s n) vp vb (gp, gq) (seg T t m) (i, (wp, wq), sp, sq))).2.2.2.2.1.1, .int .i64 (tkV (tkE (bnB up uq vp gp gq (seg l s n) (seg T t m) && shB m (i, (wp, wq), sp, sq)) (up, uq) (seg l s n) vp vb (gp, gq) (seg T t m) (i, (wp, wq), sp, sq))).2.2.2.2.1.2, .int .i64 (tkV (tkE (bnB up uq vp gp gq (seg l s n) (seg T t m) && shB m (i, (wp, wq), sp, sq)) (up, uq) (seg l s n) vp vb (gp, gq) (seg T t m) (i, (wp, wq), sp, sq))).2.2.2.2.2.1, .int .i64 (tkV (tkE (bnB up uq vp gp gq (seg l s n) (seg T t m) && shB m (i, (wp, wq), sp, sq)) (up, uq) (seg l s n) vp vb (gp, gq) (seg T t m) (i, (wp, wq), sp, sq))).2.2.2.2.2.2], .int .i64 (eC (tkE (bnB up uq vp gp gq (seg l s n) (seg T t m) && shB m (i, (wp, wq), sp, sq)) (up, uq) (seg l s n) vp vb (gp, gq) (seg T t m) (i, (wp, wq), sp, sq)))], [.arr (.prod (.int .i64) (.int .i64)) l 2 wr, .arr (.prod .str (.prod (.prod (.int .i64) (.int .i64)) (.prod (.int .i64) (.int .i64)))) T 5 wT]⟩
  | _, _ => noSpec
attribute [local irreducible] endsE lnT opT bnB shB taE in
set_option maxHeartbeats 3200000 in
theorem ok_TakeReportI : SpecOk Try.prog 12 s_take := by
  intro args S h; unfold s_take at h ⊢; (split at h <;> first | exact False.elim h | skip)
  dsimp only at h ⊢
  rename_i up uq s n x vp vb gp gq t m y i wp wq sp sq l wr T wT
  have hq := h
  cases hok : (bnB up uq vp gp gq (seg l s n) (seg T t m) && shB m (i, (wp, wq), sp, sq)) with
  | false =>
    have hR : tkE false (up, uq) (seg l s n) vp vb (gp, gq) (seg T t m) (i, (wp, wq), sp, sq) = .error 1 := rfl
    rw [hR]
    have hr : rdE (bnB up uq vp gp gq (seg l s n) (seg T t m) && shB m (i, (wp, wq), sp, sq)) (up, uq) (seg l s n) vp vb (gp, gq) (seg T t m) (i, (wp, wq), sp, sq) = .error 1 := by rw [hok]; rfl
    refine funW tabOk (E := [(9, (s_rd0 1))]) ⟨(ok_rd0 1), trivial⟩ [] (k := 2) (fn := Try.f12) rfl rfl rfl rfl rfl rfl ?_
    (repeat' ((try (conv => whnf)); first | (with_reducible first | refine And.intro ?_ ?_ | refine WX.of ?_) | exact zc | ((with_reducible refine VC.mk ?_); exact zw) | ((with_reducible refine VC.mk ?_); exact ⟨hq, hr⟩) | (with_reducible first | refine splitT ?_ | refine splitF ?_) | ((with_reducible refine splitM.mk (fun hsm => ?_) (fun hsm => ?_)) <;> (try exact zx)) | ((with_reducible refine splitB.mk (fun h => ?_) (fun h => ?_)) <;> (try simp only [zs, ne_eq] at h) <;> (try simp (disch := omega) only [w64] at h) <;> (try exact zx)) | (with_reducible intro hz; (try exact absurd hz (Nat.succ_ne_zero _)))))
  | true =>
    have hR : tkE true (up, uq) (seg l s n) vp vb (gp, gq) (seg T t m) (i, (wp, wq), sp, sq) = taE (up, uq) (seg l s n) vp vb (gp, gq) (seg T t m) (i, (wp, wq), sp, sq) := rfl
    rw [hR]
    rcases ta_c (up, uq) (seg l s n) vp vb (gp, gq) (seg T t m) (i, (wp, wq), sp, sq) with ⟨k, hk, hr, hE⟩ | ⟨d1, d2, hr, hcc⟩
    · rw [hE]
      have hr : rdE (bnB up uq vp gp gq (seg l s n) (seg T t m) && shB m (i, (wp, wq), sp, sq)) (up, uq) (seg l s n) vp vb (gp, gq) (seg T t m) (i, (wp, wq), sp, sq) = .error k := by rw [hok]; exact hr
      have hcn : decide (k ≠ 0) = true := decide_eq_true hk
      refine funW tabOk (E := [(9, (s_rd0 k))]) ⟨(ok_rd0 k), trivial⟩ [] (k := 2) (fn := Try.f12) rfl rfl rfl rfl rfl rfl ?_
      (repeat' ((try (conv => whnf)); first | (with_reducible first | refine And.intro ?_ ?_ | refine WX.of ?_) | exact zc | ((with_reducible refine VC.mk ?_); exact zw) | ((with_reducible refine splitT_of ?_ ?_); (focus (simp only [hcn, Bool.not_true, Bool.not_false, decide_true, decide_false]; done))) | ((with_reducible refine splitF_of ?_ ?_); (focus (simp only [hcn, Bool.not_true, Bool.not_false, decide_true, decide_false]; done))) | ((with_reducible refine VC.mk ?_); exact ⟨hq, hr⟩) | (with_reducible first | refine splitT ?_ | refine splitF ?_) | ((with_reducible refine splitM.mk (fun hsm => ?_) (fun hsm => ?_)) <;> (try exact zx)) | ((with_reducible refine splitB.mk (fun h => ?_) (fun h => ?_)) <;> (try simp only [zs, ne_eq] at h) <;> (try simp (disch := omega) only [w64] at h) <;> (try exact zx)) | (with_reducible intro hz; (try exact absurd hz (Nat.succ_ne_zero _)))))
    · have hf := ends_f hr
      rcases hcc with ⟨hl, hE⟩ | ⟨len, hl, hcc⟩
      · rw [hE]
        refine funW tabOk (E := [(9, (s_rd1 d1 d2)), (33, s_len0)]) ⟨(ok_rd1 d1 d2), ok_len0, trivial⟩ [] (k := 2) (fn := Try.f12) rfl rfl rfl rfl rfl rfl ?_
        (repeat' ((try (conv => whnf)); first | (with_reducible first | refine And.intro ?_ ?_ | refine WX.of ?_) | exact zc | ((with_reducible refine VC.mk ?_); exact zw) | ((with_reducible refine VC.mk ?_); exact ⟨hq, hok, hr⟩) | ((with_reducible refine VC.mk ?_); exact ⟨hq, hok, hf, hl⟩) | (with_reducible first | refine splitT ?_ | refine splitF ?_) | ((with_reducible refine splitM.mk (fun hsm => ?_) (fun hsm => ?_)) <;> (try exact zx)) | ((with_reducible refine splitB.mk (fun h => ?_) (fun h => ?_)) <;> (try simp only [zs, ne_eq] at h) <;> (try simp (disch := omega) only [w64] at h) <;> (try exact zx)) | (with_reducible intro hz; (try exact absurd hz (Nat.succ_ne_zero _)))))
      · rcases hcc with ⟨ho, hE⟩ | ⟨a, b, ho, hE⟩
        · rw [hE]
          refine funW tabOk (E := [(9, (s_rd1 d1 d2)), (33, (s_len1 len)), (34, s_op0)]) ⟨(ok_rd1 d1 d2), (ok_len1 len), ok_op0, trivial⟩ [] (k := 2) (fn := Try.f12) rfl rfl rfl rfl rfl rfl ?_
          (repeat' ((try (conv => whnf)); first | (with_reducible first | refine And.intro ?_ ?_ | refine WX.of ?_) | exact zc | ((with_reducible refine VC.mk ?_); exact zw) | ((with_reducible refine VC.mk ?_); exact ⟨hq, hok, hr⟩) | ((with_reducible refine VC.mk ?_); exact ⟨hq, hok, hf, hl⟩) | ((with_reducible refine VC.mk ?_); exact ⟨hq, hok, hf, ho⟩) | (with_reducible first | refine splitT ?_ | refine splitF ?_) | ((with_reducible refine splitM.mk (fun hsm => ?_) (fun hsm => ?_)) <;> (try exact zx)) | ((with_reducible refine splitB.mk (fun h => ?_) (fun h => ?_)) <;> (try simp only [zs, ne_eq] at h) <;> (try simp (disch := omega) only [w64] at h) <;> (try exact zx)) | (with_reducible intro hz; (try exact absurd hz (Nat.succ_ne_zero _)))))
        · rw [hE]
          refine funW tabOk (E := [(9, (s_rd1 d1 d2)), (33, (s_len1 len)), (34, (s_op1 a b))]) ⟨(ok_rd1 d1 d2), (ok_len1 len), (ok_op1 a b), trivial⟩ [] (k := 2) (fn := Try.f12) rfl rfl rfl rfl rfl rfl ?_
          (repeat' ((try (conv => whnf)); first | (with_reducible first | refine And.intro ?_ ?_ | refine WX.of ?_) | exact zc | ((with_reducible refine VC.mk ?_); exact zw) | ((with_reducible refine VC.mk ?_); exact ⟨hq, hok, hr⟩) | ((with_reducible refine VC.mk ?_); exact ⟨hq, hok, hf, hl⟩) | ((with_reducible refine VC.mk ?_); exact ⟨hq, hok, hf, ho⟩) | (with_reducible first | refine splitT ?_ | refine splitF ?_) | ((with_reducible refine splitM.mk (fun hsm => ?_) (fun hsm => ?_)) <;> (try exact zx)) | ((with_reducible refine splitB.mk (fun h => ?_) (fun h => ?_)) <;> (try simp only [zs, ne_eq] at h) <;> (try simp (disch := omega) only [w64] at h) <;> (try exact zx)) | (with_reducible intro hz; (try exact absurd hz (Nat.succ_ne_zero _)))))
theorem splitOS {o : Option (FrT × FrT)} {A B : Prop} (h1 : o = none → A) (h2 : ∀ a b, o = some (a, b) → B) : splitB (decide (oS o ≠ 0)) A B := by
  cases o with
  | none => exact ⟨fun _ => h1 rfl, fun e => by simp [oS] at e⟩
  | some v => exact ⟨fun e => by simp [oS] at e, fun _ => h2 v.1 v.2 rfl⟩
def s_l07Read1 (d1 d2 : FrT) : Spec := fun args S => match args, S with
  | [.ptr 0 0 0, .ptr 1 0 0], [.box [.int .i64 up, .int .i64 uq, .sl 2 s n x, .int .i64 vp, .bool vb, .int .i64 gp, .int .i64 gq, .sl 3 t m y] true false, .arr (.prod (.int .i64) (.prod (.prod (.int .i64) (.int .i64)) (.prod (.int .i64) (.int .i64)))) [c] 0 true, .arr (.prod (.int .i64) (.int .i64)) l 2 wr, .arr (.prod .str (.prod (.prod (.int .i64) (.int .i64)) (.prod (.int .i64) (.int .i64)))) T 5 wT] => ⟨(((s + n ≤ l.length ∧ n ≤ 1048576) ∧ t + m ≤ T.length ∧ m ≤ 1048576) ∧ bnB up uq vp gp gq (seg l s n) (seg T t m) = true ∧ shB m c = true) ∧ endsE (up, uq) (seg l s n) vp vb (gp, gq) (seg T t m) c = .ok (d1, d2), .tup [.agg [.int .i64 d1.1, .int .i64 d1.2], .agg [.int .i64 d2.1, .int .i64 d2.2], .int .i64 0], [.box [.int .i64 up, .int .i64 uq, .sl 2 s n x, .int .i64 vp, .bool vb, .int .i64 gp, .int .i64 gq, .sl 3 t m y] true false, .arr (.prod (.int .i64) (.prod (.prod (.int .i64) (.int .i64)) (.prod (.int .i64) (.int .i64)))) [c] 0 true, .arr (.prod (.int .i64) (.int .i64)) l 2 wr, .arr (.prod .str (.prod (.prod (.int .i64) (.int .i64)) (.prod (.int .i64) (.int .i64)))) T 5 wT]⟩
  | _, _ => noSpec
theorem ok_l07Read1 (d1 d2 : FrT) : SpecOk Try.prog 18 (s_l07Read1 d1 d2) := by
  intro args S h; unfold s_l07Read1 at h ⊢; (split at h <;> first | exact False.elim h | skip)
  dsimp only at h ⊢
  rename_i up uq s n x vp vb gp gq t m y c l wr T wT
  have h2 := ok_l07Read [.ptr 0 0 0, .ptr 1 0 0] [.box [.int .i64 up, .int .i64 uq, .sl 2 s n x, .int .i64 vp, .bool vb, .int .i64 gp, .int .i64 gq, .sl 3 t m y] true false, .arr (.prod (.int .i64) (.prod (.prod (.int .i64) (.int .i64)) (.prod (.int .i64) (.int .i64)))) [c] 0 true, .arr (.prod (.int .i64) (.int .i64)) l 2 wr, .arr (.prod .str (.prod (.prod (.int .i64) (.int .i64)) (.prod (.int .i64) (.int .i64)))) T 5 wT] h.1
  simp only [s_l07Read, h.2, e2V, eV, eC] at h2
  exact h2
def s_l07Read0 (k : Int) : Spec := fun args S => match args, S with
  | [.ptr 0 0 0, .ptr 1 0 0], [.box [.int .i64 up, .int .i64 uq, .sl 2 s n x, .int .i64 vp, .bool vb, .int .i64 gp, .int .i64 gq, .sl 3 t m y] true false, .arr (.prod (.int .i64) (.prod (.prod (.int .i64) (.int .i64)) (.prod (.int .i64) (.int .i64)))) [c] 0 true, .arr (.prod (.int .i64) (.int .i64)) l 2 wr, .arr (.prod .str (.prod (.prod (.int .i64) (.int .i64)) (.prod (.int .i64) (.int .i64)))) T 5 wT] => ⟨(((s + n ≤ l.length ∧ n ≤ 1048576) ∧ t + m ≤ T.length ∧ m ≤ 1048576) ∧ bnB up uq vp gp gq (seg l s n) (seg T t m) = true ∧ shB m c = true) ∧ endsE (up, uq) (seg l s n) vp vb (gp, gq) (seg T t m) c = .error k, .tup [.agg [.int .i64 0, .int .i64 0], .agg [.int .i64 0, .int .i64 0], .int .i64 k], [.box [.int .i64 up, .int .i64 uq, .sl 2 s n x, .int .i64 vp, .bool vb, .int .i64 gp, .int .i64 gq, .sl 3 t m y] true false, .arr (.prod (.int .i64) (.prod (.prod (.int .i64) (.int .i64)) (.prod (.int .i64) (.int .i64)))) [c] 0 true, .arr (.prod (.int .i64) (.int .i64)) l 2 wr, .arr (.prod .str (.prod (.prod (.int .i64) (.int .i64)) (.prod (.int .i64) (.int .i64)))) T 5 wT]⟩
  | _, _ => noSpec
theorem ok_l07Read0 (k : Int) : SpecOk Try.prog 18 (s_l07Read0 k) := by
  intro args S h; unfold s_l07Read0 at h ⊢; (split at h <;> first | exact False.elim h | skip)
  dsimp only at h ⊢
  rename_i up uq s n x vp vb gp gq t m y c l wr T wT
  have h2 := ok_l07Read [.ptr 0 0 0, .ptr 1 0 0] [.box [.int .i64 up, .int .i64 uq, .sl 2 s n x, .int .i64 vp, .bool vb, .int .i64 gp, .int .i64 gq, .sl 3 t m y] true false, .arr (.prod (.int .i64) (.prod (.prod (.int .i64) (.int .i64)) (.prod (.int .i64) (.int .i64)))) [c] 0 true, .arr (.prod (.int .i64) (.int .i64)) l 2 wr, .arr (.prod .str (.prod (.prod (.int .i64) (.int .i64)) (.prod (.int .i64) (.int .i64)))) T 5 wT] h.1
  simp only [s_l07Read, h.2, e2V, eV, eC] at h2
  exact h2
def s_l07Take : Spec := fun args S => match args, S with
  | [.ptr 0 0 0, .ptr 1 0 0], [.box [.int .i64 up, .int .i64 uq, .sl 2 s n x, .int .i64 vp, .bool vb, .int .i64 gp, .int .i64 gq, .sl 3 t m y] true false, .arr (.prod (.int .i64) (.prod (.prod (.int .i64) (.int .i64)) (.prod (.int .i64) (.int .i64)))) [c] 0 true, .arr (.prod (.int .i64) (.int .i64)) l 2 wr, .arr (.prod .str (.prod (.prod (.int .i64) (.int .i64)) (.prod (.int .i64) (.int .i64)))) T 5 wT] => ⟨((s + n ≤ l.length ∧ n ≤ 1048576) ∧ t + m ≤ T.length ∧ m ≤ 1048576) ∧ bnB up uq vp gp gq (seg l s n) (seg T t m) = true ∧ shB m c = true, .tup [.agg [.int .i64 (tkV (taE (up, uq) (seg l s n) vp vb (gp, gq) (seg T t m) c)).1.1, .int .i64 (tkV (taE (up, uq) (seg l s n) vp vb (gp, gq) (seg T t m) c)).1.2.1.1, .int .i64 (tkV (taE (up, uq) (seg l s n) vp vb (gp, gq) (seg T t m) c)).1.2.1.2, .int .i64 (tkV (taE (up, uq) (seg l s n) vp vb (gp, gq) (seg T t m) c)).1.2.2.1, .int .i64 (tkV (taE (up, uq) (seg l s n) vp vb (gp, gq) (seg T t m) c)).1.2.2.2, .int .i64 (tkV (taE (up, uq) (seg l s n) vp vb (gp, gq) (seg T t m) c)).2.1.1, .int .i64 (tkV (taE (up, uq) (seg l s n) vp vb (gp, gq) (seg T t m) c)).2.1.2, .int .i64 (tkV (taE (up, uq) (seg l s n) vp vb (gp, gq) (seg T t m) c)).2.2.1.1, .int .i64 (tkV (taE (up, uq) (seg l s n) vp vb (gp, gq) (seg T t m) c)).2.2.1.2, .int .i64 (tkV (taE (up, uq) (seg l s n) vp vb (gp, gq) (seg T t m) c)).2.2.2.1.1, .int .i64 (tkV (taE (up, uq) (seg l s n) vp vb (gp, gq) (seg T t m) c)).2.2.2.1.2, .int .i64 (tkV (taE (up, uq) (seg l s n) vp vb (gp, gq) (seg T t m) c)).2.2.2.2.1.1, .int .i64 (tkV (taE (up, uq) (seg l s n) vp vb (gp, gq) (seg T t m) c)).2.2.2.2.1.2, .int .i64 (tkV (taE (up, uq) (seg l s n) vp vb (gp, gq) (seg T t m) c)).2.2.2.2.2.1, .int .i64 (tkV (taE (up, uq) (seg l s n) vp vb (gp, gq) (seg T t m) c)).2.2.2.2.2.2], .int .i64 (eC (taE (up, uq) (seg l s n) vp vb (gp, gq) (seg T t m) c))], [.box [.int .i64 up, .int .i64 uq, .sl 2 s n x, .int .i64 vp, .bool vb, .int .i64 gp, .int .i64 gq, .sl 3 t m y] true false, .arr (.prod (.int .i64) (.prod (.prod (.int .i64) (.int .i64)) (.prod (.int .i64) (.int .i64)))) [c] 0 true, .arr (.prod (.int .i64) (.int .i64)) l 2 wr, .arr (.prod .str (.prod (.prod (.int .i64) (.int .i64)) (.prod (.int .i64) (.int .i64)))) T 5 wT]⟩
  | _, _ => noSpec
attribute [local irreducible] endsE lnT opT bnB shB taE in
set_option maxHeartbeats 3200000 in
theorem ok_l07Take : SpecOk Try.prog 35 s_l07Take := by
  intro args S h; unfold s_l07Take at h ⊢; (split at h <;> first | exact False.elim h | skip)
  dsimp only at h ⊢
  rename_i up uq s n x vp vb gp gq t m y c l wr T wT
  have hq := h
  rcases ta_c (up, uq) (seg l s n) vp vb (gp, gq) (seg T t m) c with ⟨k, hk, hr, hE⟩ | ⟨d1, d2, hr, hcc⟩
  · rw [hE]
    have hcn : decide (k ≠ 0) = true := decide_eq_true hk
    refine funW tabOk (E := [(18, (s_l07Read0 k))]) ⟨(ok_l07Read0 k), trivial⟩ [] (k := 4) (fn := Try.f35) rfl rfl rfl rfl rfl rfl ?_
    (repeat' ((try (conv => whnf)); first | (with_reducible first | refine And.intro ?_ ?_ | refine WX.of ?_) | exact zc | ((with_reducible refine VC.mk ?_); exact zw) | ((with_reducible refine splitT_of ?_ ?_); (focus (simp only [hcn, Bool.not_true, Bool.not_false, decide_true, decide_false]; done))) | ((with_reducible refine splitF_of ?_ ?_); (focus (simp only [hcn, Bool.not_true, Bool.not_false, decide_true, decide_false]; done))) | ((with_reducible refine VC.mk ?_); exact ⟨hq, hr⟩) | (with_reducible first | refine splitT ?_ | refine splitF ?_) | ((with_reducible refine splitM.mk (fun hsm => ?_) (fun hsm => ?_)) <;> (try exact zx)) | ((with_reducible refine splitB.mk (fun h => ?_) (fun h => ?_)) <;> (try simp only [zs, ne_eq] at h) <;> (try simp (disch := omega) only [w64] at h) <;> (try exact zx)) | (with_reducible intro hz; (try exact absurd hz (Nat.succ_ne_zero _)))))
  · have hf := ends_f hr
    have hf1 := smF_ok hf.1
    have hf2 := smF_ok hf.2
    refine funW tabOk (E := [(18, (s_l07Read1 d1 d2)), (68, s_l07Length), (69, s_l07Open)]) ⟨(ok_l07Read1 d1 d2), ok_l07Length, ok_l07Open, trivial⟩ [] (k := 4) (fn := Try.f35) rfl rfl rfl rfl rfl rfl ?_
    (repeat' ((try (conv => whnf)); first | (with_reducible first | refine And.intro ?_ ?_ | refine WX.of ?_) | exact zc | ((with_reducible refine VC.mk ?_); exact zw) | ((with_reducible refine VC.mk ?_); exact ⟨hq, hr⟩) | ((with_reducible refine VC.mk ?_); exact ⟨hq.1.2, hq.2.1, hq.2.2, hf1, hf2⟩) | ((with_reducible refine VC.mk ?_); exact ⟨hq.1, hq.2.1, hq.2.2, hf1, hf2⟩) | ((with_reducible refine splitO (by first  |  exact okO_sb _ _  |  exact okO_mu _ _  |  exact okO_ad _ _  |  exact okO_dv _ _  |  exact okO_bind _ _ fun _ => okO_ad _ _  |  exact okO_ln2 _ _ _ _ _) (fun h => ?_) (fun a b h hs => ?_)) <;> (try rw [h]) <;> (try simp only [zv_s] at h) <;> (try dsimp only at h)) | ((with_reducible refine splitOS (fun h => ?_) (fun a b h => ?_)) <;> (try rw [h])) | (with_reducible first | refine splitT ?_ | refine splitF ?_) | ((with_reducible refine splitM.mk (fun hsm => ?_) (fun hsm => ?_)) <;> (try exact zx)) | ((with_reducible refine splitB.mk (fun h => ?_) (fun h => ?_)) <;> (try simp only [zs, ne_eq] at h) <;> (try simp (disch := omega) only [w64] at h) <;> (try exact zx)) | (with_reducible intro hz; (try exact absurd hz (Nat.succ_ne_zero _)))))
    all_goals refine ⟨?_⟩
    · rcases hcc with ⟨_, hE⟩ | ⟨len, hl, _⟩
      · rw [hE]; rfl
      · rw [hl] at h; cases h
    · rename_i hl
      rcases hcc with ⟨hl2, _⟩ | ⟨len, hl2, hcc⟩
      · rw [hl2] at hl; cases hl
      · rcases hcc with ⟨_, hE⟩ | ⟨a, b, ho, _⟩
        · rw [hE]; rfl
        · rw [ho] at h; cases h
    · rename_i hl
      rcases hcc with ⟨hl2, _⟩ | ⟨len, hl2, hcc⟩
      · rw [hl2] at hl; cases hl
      · rcases hcc with ⟨ho, _⟩ | ⟨a, b, ho, hE⟩
        · rw [ho] at h; cases h
        · rw [hl2] at hl; cases hl
          rw [ho] at h; cases h
          rw [hE]; rfl
theorem ok_TakeReportS : SpecOk Try.prog 13 s_take := by
  intro args S h; unfold s_take at h ⊢; (split at h <;> first | exact False.elim h | skip)
  dsimp only at h ⊢
  rename_i up uq s n x vp vb gp gq t m y i wp wq sp sq l wr T wT
  have hq := h
  cases hok : (bnB up uq vp gp gq (seg l s n) (seg T t m) && shB m (i, (wp, wq), sp, sq)) with
  | false =>
    refine funW tabOk (E := [(17, s_vShot)]) ⟨ok_ValidShotS, trivial⟩ [] (k := 2) (fn := Try.f13) rfl rfl rfl rfl rfl rfl ?_
    (repeat' ((try (conv => whnf)); first | (with_reducible first | refine And.intro ?_ ?_ | refine WX.of ?_) | exact zc | ((with_reducible refine VC.mk ?_); exact zw) | ((with_reducible refine VC.mk ?_); exact hq) | ((with_reducible refine splitT_of ?_ ?_); (focus (simp only [hok, Bool.not_true, Bool.not_false, decide_true, decide_false]; done))) | ((with_reducible refine splitF_of ?_ ?_); (focus (simp only [hok, Bool.not_true, Bool.not_false, decide_true, decide_false]; done))) | (with_reducible first | refine splitT ?_ | refine splitF ?_) | ((with_reducible refine splitM.mk (fun hsm => ?_) (fun hsm => ?_)) <;> (try exact zx)) | ((with_reducible refine splitB.mk (fun h => ?_) (fun h => ?_)) <;> (try simp only [zs, ne_eq] at h) <;> (try simp (disch := omega) only [w64] at h) <;> (try exact zx)) | (with_reducible intro hz; (try exact absurd hz (Nat.succ_ne_zero _)))))
  | true =>
    have hk2 := hok
    rw [Bool.and_eq_true] at hk2
    refine funW tabOk (E := [(17, s_vShot), (35, s_l07Take)]) ⟨ok_ValidShotS, ok_l07Take, trivial⟩ [] (k := 2) (fn := Try.f13) rfl rfl rfl rfl rfl rfl ?_
    (repeat' ((try (conv => whnf)); first | (with_reducible first | refine And.intro ?_ ?_ | refine WX.of ?_) | exact zc | ((with_reducible refine VC.mk ?_); exact zw) | ((with_reducible refine VC.mk ?_); exact hq) | ((with_reducible refine VC.mk ?_); exact ⟨⟨hq.1, hq.2.1⟩, hk2.1, hk2.2⟩) | ((with_reducible refine splitT_of ?_ ?_); (focus (simp only [hok, Bool.not_true, Bool.not_false, decide_true, decide_false]; done))) | ((with_reducible refine splitF_of ?_ ?_); (focus (simp only [hok, Bool.not_true, Bool.not_false, decide_true, decide_false]; done))) | (with_reducible first | refine splitT ?_ | refine splitF ?_) | ((with_reducible refine splitM.mk (fun hsm => ?_) (fun hsm => ?_)) <;> (try exact zx)) | ((with_reducible refine splitB.mk (fun h => ?_) (fun h => ?_)) <;> (try simp only [zs, ne_eq] at h) <;> (try simp (disch := omega) only [w64] at h) <;> (try exact zx)) | (with_reducible intro hz; (try exact absurd hz (Nat.succ_ne_zero _)))))
end Go.Proofs.Ytbmejhabgoimeaa.Eng
set_option linter.unusedVariables false
set_option linter.unusedSimpArgs false
namespace Go.Proofs.Ytbmejhabgoimeaa.Eng
open Go Go.RowKit
set_option maxRecDepth 100000
end Go.Proofs.Ytbmejhabgoimeaa.Eng
set_option linter.unusedVariables false
set_option linter.unusedSimpArgs false
namespace Go.Proofs.Ytbmejhabgoimeaa.Eng
open Go Go.RowKit
set_option maxRecDepth 100000
/-- A report is accepted. -/
def accB (u : FrT) (E : List FrT) (vp : Int) (vb : Bool) (g : FrT) (T : List ThT) (r : RpT) : Bool := match tkE (shB T.length r.1) u E vp vb g T r.1 with | .ok own => decide (own = r) | .error _ => false
theorem enz_take {ok : Bool} {u : FrT} {E : List FrT} {vp : Int} {vb : Bool} {g : FrT} {T : List ThT} {c : ShT} : ENZ (tkE ok u E vp vb g T c) := by
  unfold tkE
  split
  · unfold taE
    refine enz_bind enz_ends fun _ => enz_bind (enz_ofO _) fun _ => enz_bind ?_ fun _ => enz_ok _
    split
    · exact enz_ok _
    · exact enz_er (by decide)
  · exact enz_er (by decide)
end Go.Proofs.Ytbmejhabgoimeaa.Eng
set_option linter.unusedVariables false
set_option linter.unusedSimpArgs false
namespace Go.Proofs.Ytbmejhabgoimeaa.Eng
open Go Go.RowKit
set_option maxRecDepth 100000
abbrev SpT : Type := (Int × Int) × Int × Int
def spB (s : SpT) : Bool := spOk s.1.1 s.1.2 s.2.1 s.2.2
end Go.Proofs.Ytbmejhabgoimeaa.Eng
set_option linter.unusedVariables false
set_option linter.unusedSimpArgs false
namespace Go.Proofs.Ytbmejhabgoimeaa.Eng
open Go Go.RowKit
set_option maxRecDepth 100000
theorem st_v {g w s : FrT} (hg : 0 < g.2) (hw : 0 < w.2) (h : stO g w = some s) : rv s = 1 + rv g * rv w ∧ 0 < s.2 := by
  unfold stO at h
  cases h1 : muO g w with
  | none => rw [h1] at h; simp at h
  | some a =>
    rw [h1] at h
    simp only [Option.bind_some] at h
    have e1 := rv_mu hg hw h1
    have e2 := rv_ad (a := (1, 1)) (by decide) e1.2 h
    refine ⟨?_, e2.2⟩
    rw [e2.1, e1.1, rv_num]; rfl
theorem bk_v {g1 g2 w a v : FrT} (hg1 : 0 < g1.2) (hg2 : 0 < g2.2) (hw : 0 < w.2) (ha : 0 < a.2) (hp : 0 < 1 + rv g2 * rv w) (h : bkO g1 g2 w a = some v) : rv v = rv a * (1 + rv g1 * rv w) / (1 + rv g2 * rv w) ∧ 0 < v.2 := by
  unfold bkO at h
  cases h1 : stO g1 w with
  | none => rw [h1] at h; simp at h
  | some c =>
    rw [h1] at h
    simp only [Option.bind_some] at h
    cases h2 : stO g2 w with
    | none => rw [h2] at h; simp at h
    | some t =>
      rw [h2] at h
      simp only [Option.bind_some] at h
      cases h3 : muO a c with
      | none => rw [h3] at h; simp at h
      | some d =>
        rw [h3] at h
        simp only [Option.bind_some] at h
        have e1 := st_v hg1 hw h1
        have e2 := st_v hg2 hw h2
        have e3 := rv_mu ha e1.2 h3
        have hp2 : 0 < t.1 := (rv_pos e2.2).1 (by rw [e2.1]; exact hp)
        have e4 := rv_dv e3.2 e2.2 hp2 h
        refine ⟨?_, e4.2⟩
        rw [e4.1, e3.1, e1.1, e2.1]
theorem db_v {u w e : FrT} {vp : Int} (hu : 0 < u.2) (hw : 0 < w.2) (hv : 0 < vp) (h : dbO u vp w = some e) : rv e = rv u / (2 * vp) + 2 * rv w ∧ 0 < e.2 := by
  unfold dbO at h
  cases h1 : dvO u (2 * vp, 1) with
  | none => rw [h1] at h; simp at h
  | some a =>
    rw [h1] at h
    simp only [Option.bind_some] at h
    cases h2 : muO (2, 1) w with
    | none => rw [h2] at h; simp at h
    | some b =>
      rw [h2] at h
      simp only [Option.bind_some] at h
      have e1 := rv_dv (b := (2 * vp, 1)) hu Int.one_pos (by dsimp only; omega) h1
      have e2 := rv_mu (a := (2, 1)) (by decide) hw h2
      have e3 := rv_ad e1.2 e2.2 h
      refine ⟨?_, e3.2⟩
      rw [e3.1, e1.1, e2.1, rv_num, rv_num]
      push_cast; rfl
theorem wrN_nn {E : List FrT} : ∀ (i : Nat), 0 ≤ (wrN E i).1
  | 0 => Int.le_refl 0
  | i + 1 => by
    rw [wrN]
    unfold moF
    have := wrN_nn (E := E) i
    split
    · exact this
    · dsimp only; omega
theorem gw_v {g : FrT} (h : gwB g.1 g.2 = true) : 0 < g.2 ∧ 0 ≤ rv g ∧ 1000 * rv g ≤ 1 := by
  unfold gwB at h
  simp only [Bool.and_eq_true, decide_eq_true_eq] at h
  have hq := fOk_q h.1.1
  refine ⟨hq, (rv_nn hq).2 h.1.2, ?_⟩
  have h2 := (rv_le (a := (1000 * g.1, g.2)) (b := (1, 1)) hq (by decide)).2 (by dsimp only; omega)
  rw [show rv (1, 1) = 1 from rv_num 1] at h2
  have : rv (1000 * g.1, g.2) = 1000 * rv g := by unfold rv; dsimp only; push_cast; grind
  rw [this] at h2; exact h2
theorem wm_v {w : FrT} (hf : fOk w.1 w.2 = true) (h : (w.1.natAbs : Int) ≤ 100 * w.2) : 0 < w.2 ∧ -100 ≤ rv w ∧ rv w ≤ 100 := by
  have hq := fOk_q hf
  have h1 := (rv_le (a := w) (b := (100, 1)) hq (by decide)).2 (by dsimp only; omega)
  have h2 := (rv_le (a := (-100, 1)) (b := w) (by decide) hq).2 (by dsimp only; omega)
  rw [rv_num] at h1 h2
  exact ⟨hq, h2, h1⟩
/-- A stretch is more than 0. -/
theorem st_gt {g w : FrT} (hg : gwB g.1 g.2 = true) (hf : fOk w.1 w.2 = true) (h : (w.1.natAbs : Int) ≤ 100 * w.2) : 0 < 1 + rv g * rv w := by
  have h1 := gw_v hg
  have h2 := wm_v hf h
  have h3 := Rat.mul_le_mul_of_nonneg_left h2.2.1 h1.2.1
  grind
/-- What an open span tells. -/
theorem op_v {up uq vp gp gq : Int} {E : List FrT} {T : List ThT} {c : ShT} {f k a b : FrT} (hb : bnB up uq vp gp gq E T = true) (hs : shB T.length c = true) (hf : fOk f.1 f.2 = true) (hk : fOk k.1 k.2 = true) (h : opT (up, uq) E vp (gp, gq) T c f k = some (a, b)) :
    (rv a = (rv k - rv f - 2 * (rv (up, uq) / (2 * vp) + 2 * rv (wrN E E.length))) * (1 + rv (gp, gq) * rv c.2.1) / (1 + rv (thAt T c).2.2 * rv c.2.1) ∧ 0 < a.2) ∧
    (rv b = (rv k - rv f + 2 * (rv (up, uq) / (2 * vp) + 2 * rv (wrN E E.length))) * (1 + rv (gp, gq) * rv c.2.1) / (1 + rv (thAt T c).2.2 * rv c.2.1) ∧ 0 < b.2) := by
  have hgg := bn_g hb
  have hsh := sh_e hs
  obtain ⟨x, ha⟩ := get_some (l := T) (i := c.1.toNat) (by omega)
  have hat := bn_at hb ha
  have e : thAt T c = x := by unfold thAt; rw [ha]; rfl
  have hel := sc_el hgg.2.2.2.2
  have hwr := wrN_sm hel (i := E.length) (Nat.le_refl _)
  have hwq : 0 < (wrN E E.length).2 := by unfold smF at hwr; omega
  rw [e]
  unfold opT opO at h
  rw [e] at h
  have hp := st_gt hat.2.2 hsh.2.1 hsh.2.2.1
  cases h1 : sbO k f with
  | none => rw [h1] at h; simp at h
  | some d =>
    rw [h1] at h
    simp only [Option.bind_some] at h
    cases h2 : dbO (up, uq) vp (wrN E E.length) with
    | none => rw [h2] at h; simp at h
    | some dd =>
      rw [h2] at h
      simp only [Option.bind_some] at h
      cases h3 : muO (2, 1) dd with
      | none => rw [h3] at h; simp at h
      | some by' =>
        rw [h3] at h
        simp only [Option.bind_some] at h
        cases h4 : arO d by' with
        | none => rw [h4] at h; simp at h
        | some lh =>
          rw [h4] at h
          simp only [Option.bind_some] at h
          unfold arO at h4
          cases h5 : sbO d by' with
          | none => rw [h5] at h4; simp at h4
          | some lo =>
            rw [h5] at h4
            simp only [Option.bind_some] at h4
            cases h6 : adO d by' with
            | none => rw [h6] at h4; simp at h4
            | some hi =>
              rw [h6] at h4
              simp only [Option.bind_some] at h4
              obtain rfl := Option.some.inj h4
              cases h7 : bkO (gp, gq) x.2.2 c.2.1 lo with
              | none => rw [h7] at h; simp at h
              | some a' =>
                rw [h7] at h
                simp only [Option.bind_some] at h
                cases h8 : bkO (gp, gq) x.2.2 c.2.1 hi with
                | none => rw [h8] at h; simp at h
                | some b' =>
                  rw [h8] at h
                  simp only [Option.bind_some] at h
                  obtain ⟨rfl, rfl⟩ := Prod.mk.inj (Option.some.inj h)
                  have e1 := rv_sb (fOk_q hk) (fOk_q hf) h1
                  have e2 := db_v (u := (up, uq)) (fOk_q hgg.2.2.1) hwq (by omega) h2
                  have e3 := rv_mu (a := (2, 1)) (by decide) e2.2 h3
                  have e5 := rv_sb e1.2 e3.2 h5
                  have e6 := rv_ad e1.2 e3.2 h6
                  have e7 := bk_v (g1 := (gp, gq)) (fOk_q hgg.1) (fOk_q hat.2.1) (fOk_q hsh.2.1) e5.2 hp h7
                  have e8 := bk_v (g1 := (gp, gq)) (fOk_q hgg.1) (fOk_q hat.2.1) (fOk_q hsh.2.1) e6.2 hp h8
                  rw [rv_num] at e3
                  refine ⟨⟨?_, e7.2⟩, ?_, e8.2⟩
                  · rw [e7.1, e5.1, e1.1, e3.1, e2.1]; rfl
                  · rw [e8.1, e6.1, e1.1, e3.1, e2.1]; rfl
theorem rat_div_le {a b c : Rat} (h : a ≤ b) (hc : 0 < c) : a / c ≤ b / c := by
  have h1 : 0 < c⁻¹ := Rat.inv_pos.2 hc
  have := Rat.mul_le_mul_of_nonneg_right h (Rat.le_of_lt h1)
  rwa [← Rat.div_def, ← Rat.div_def] at this
theorem bk_f {g1 g2 w a v : FrT} (h : bkO g1 g2 w a = some v) : fOk v.1 v.2 = true := okO_bk _ _ _ _ v h
theorem op_f {u : FrT} {E : List FrT} {vp : Int} {g : FrT} {T : List ThT} {c : ShT} {f k a b : FrT} (h : opT u E vp g T c f k = some (a, b)) : fOk a.1 a.2 = true ∧ fOk b.1 b.2 = true := by
  unfold opT opO at h
  cases h1 : sbO k f with
  | none => rw [h1] at h; simp at h
  | some d =>
    rw [h1] at h
    simp only [Option.bind_some] at h
    cases h2 : dbO u vp (wrN E E.length) with
    | none => rw [h2] at h; simp at h
    | some dd =>
      rw [h2] at h
      simp only [Option.bind_some] at h
      cases h3 : muO (2, 1) dd with
      | none => rw [h3] at h; simp at h
      | some by' =>
        rw [h3] at h
        simp only [Option.bind_some] at h
        cases h4 : arO d by' with
        | none => rw [h4] at h; simp at h
        | some lh =>
          rw [h4] at h
          simp only [Option.bind_some] at h
          cases h7 : bkO g (thAt T c).2.2 c.2.1 lh.1 with
          | none => rw [h7] at h; simp at h
          | some a' =>
            rw [h7] at h
            simp only [Option.bind_some] at h
            cases h8 : bkO g (thAt T c).2.2 c.2.1 lh.2 with
            | none => rw [h8] at h; simp at h
            | some b' =>
              rw [h8] at h
              simp only [Option.bind_some] at h
              obtain ⟨rfl, rfl⟩ := Prod.mk.inj (Option.some.inj h)
              exact ⟨bk_f h7, bk_f h8⟩
theorem op_sp {up uq vp gp gq : Int} {E : List FrT} {T : List ThT} {c : ShT} {f k a b : FrT} (hb : bnB up uq vp gp gq E T = true) (hs : shB T.length c = true) (hf : fOk f.1 f.2 = true) (hk : fOk k.1 k.2 = true) (h : opT (up, uq) E vp (gp, gq) T c f k = some (a, b)) : spB (a, b) = true := by
  have hv := op_v hb hs hf hk h
  have hfa := op_f h
  have hgg := bn_g hb
  have hsh := sh_e hs
  obtain ⟨x, ha⟩ := get_some (l := T) (i := c.1.toNat) (by omega)
  have hat := bn_at hb ha
  have e : thAt T c = x := by unfold thAt; rw [ha]; rfl
  have hC := st_gt (g := (gp, gq)) hgg.2.1 hsh.2.1 hsh.2.2.1
  have hD := st_gt hat.2.2 hsh.2.1 hsh.2.2.1
  rw [← e] at hD
  have hel := sc_el hgg.2.2.2.2
  have hwr := wrN_sm hel (i := E.length) (Nat.le_refl _)
  have hw0 : 0 ≤ rv (wrN E E.length) := (rv_nn (by unfold smF at hwr; omega)).2 (wrN_nn _)
  have hsz := sc_sz hgg.2.2.2.2
  have hu0 : 0 < rv (up, uq) := (rv_pos (fOk_q hgg.2.2.1)).2 hsz.2.1.1
  have hvp : (0 : Rat) < 2 * vp := by have : (0 : Rat) < vp := pos_q (by omega); grind
  have hud : 0 ≤ rv (up, uq) / (2 * vp) := by
    have := rat_div_le (Rat.le_of_lt hu0) hvp
    rwa [show (0 : Rat) / (2 * vp) = 0 by grind] at this
  have hle : rv a ≤ rv b := by
    rw [hv.1.1, hv.2.1]
    refine rat_div_le (Rat.mul_le_mul_of_nonneg_right ?_ (Rat.le_of_lt hC)) hD
    grind
  unfold spB
  rw [spOk_iff]
  exact ⟨hfa.1, hfa.2, (rv_le hv.1.2 hv.2.2).1 hle⟩
/-- What an accepted report is. -/
theorem acc_sp {up uq vp gp gq : Int} {vb : Bool} {E : List FrT} {T : List ThT} {r : RpT} (hb : bnB up uq vp gp gq E T = true) (h : accB (up, uq) E vp vb (gp, gq) T r = true) : spB r.2.2.2.2 = true ∧ fOk r.2.2.2.1.1 r.2.2.2.1.2 = true ∧ shB T.length r.1 = true ∧ taE (up, uq) E vp vb (gp, gq) T r.1 = .ok r := by
  unfold accB at h
  cases hs : shB T.length r.1 with
  | false => rw [hs] at h; simp [tkE] at h
  | true =>
    rw [hs] at h
    unfold tkE at h
    rw [if_pos rfl] at h
    cases ht : taE (up, uq) E vp vb (gp, gq) T r.1 with
    | error k => rw [ht] at h; simp at h
    | ok own =>
      rw [ht] at h
      simp only [decide_eq_true_eq] at h
      subst h
      rcases ta_c (up, uq) E vp vb (gp, gq) T own.1 with ⟨k, _, _, hE⟩ | ⟨d1, d2, hr, hcc⟩
      · rw [hE] at ht; cases ht
      · have hf := ends_f hr
        rcases hcc with ⟨_, hE⟩ | ⟨len, hl, hcc⟩
        · rw [hE] at ht; cases ht
        · rcases hcc with ⟨_, hE⟩ | ⟨a, b, ho, hE⟩
          · rw [hE] at ht; cases ht
          · rw [hE] at ht
            have e := Except.ok.inj ht
            rw [← e]
            rw [← e] at hs
            exact ⟨op_sp hb hs hf.1 hf.2 ho, okO_ln2 _ _ _ _ _ _ hl, rfl, rfl⟩
end Go.Proofs.Ytbmejhabgoimeaa.Eng
