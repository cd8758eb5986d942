/- lenf: lemmas for the proof, no conditions of their own. -/
import Derived.Test.YtbmejhabgoimeaaXends
set_option linter.unusedVariables false
set_option linter.unusedSimpArgs false
namespace Go.Proofs.Ytbmejhabgoimeaa.Eng
open Go Go.RowKit
set_option maxRecDepth 100000
theorem pr_eta {α β : Type} (p : α × β) : (p.1, p.2) = p := rfl
/-- A length at 0 degrees. -/
def bkO (g1 g2 w a : FrT) : Option FrT := (stO g1 w).bind fun c => (stO g2 w).bind fun t => (muO a c).bind fun d => dvO d t
def lnO (g1 g2 w f k : FrT) : Option FrT := (sbO k f).bind fun d => bkO g1 g2 w d
def lnT (g : FrT) (T : List ThT) (c : ShT) (f k : FrT) : Option FrT := lnO g (thAt T c).2.2 c.2.1 f k
/-- What cold answers, and what it notes. -/
def bkV (g1 g2 w a : FrT) : FrT := tv (dvO (tv (muO a (stV g1 w))) (stV g2 w))
def bkB (g1 g2 w a : FrT) : Bool := !(stO g1 w).isSome || !(muO a (stV g1 w)).isSome || !(stO g2 w).isSome || !(dvO (tv (muO a (stV g1 w))) (stV g2 w)).isSome
theorem bk_e (g1 g2 w a : FrT) : bkB g1 g2 w a = !(bkO g1 g2 w a).isSome ∧ ∀ v, bkO g1 g2 w a = some v → bkV g1 g2 w a = v := by
  unfold bkB bkV bkO
  cases h1 : stO g1 w with
  | none => simp
  | some c =>
    rw [stV_e h1]
    simp only [Option.bind_some]
    cases h2 : stO g2 w with
    | none => simp
    | some t =>
      rw [stV_e h2]
      simp only [Option.bind_some]
      cases h3 : muO a c with
      | none => simp
      | some d =>
        simp only [Option.bind_some, tv, Option.getD_some, Option.isSome_some, Bool.not_true, Bool.false_or, true_and]
        intro v h4; rw [h4]; rfl
theorem smF_sb (a b : FrT) : smF (tv (sbO a b)).1 (tv (sbO a b)).2 := smF_rO _ _
def s_cold : Spec := fun args S => match args, S with
  | [.ptr b 0 0, .agg [.int .i64 up, .int .i64 uq, .sl 1 s n x, .int .i64 vp, .bool vb, .int .i64 gp, .int .i64 gq, .sl 2 t m y], .agg [.int .i64 i, .int .i64 wp, .int .i64 wq, .int .i64 sp, .int .i64 sq], .agg [.int .i64 ap, .int .i64 aq]], [.arr .bool [bad] 0 true, .arr (.prod (.int .i64) (.int .i64)) l 2 wr, .arr (.prod .str (.prod (.prod (.int .i64) (.int .i64)) (.prod (.int .i64) (.int .i64)))) T 5 wT] => ⟨b = 0 ∧ (t + m ≤ T.length ∧ m ≤ 1048576) ∧ (0 ≤ i ∧ i ≤ (m : Int) - 1) ∧ smF gp gq ∧ smF wp wq ∧ smF ap aq ∧ ∀ (a : ThT), (seg T t m)[i.toNat]? = some a → smF a.2.2.1 a.2.2.2, .agg [.int .i64 (bkV (gp, gq) (thAt (seg T t m) (i, (wp, wq), sp, sq)).2.2 (wp, wq) (ap, aq)).1, .int .i64 (bkV (gp, gq) (thAt (seg T t m) (i, (wp, wq), sp, sq)).2.2 (wp, wq) (ap, aq)).2], [.arr .bool [bad || bkB (gp, gq) (thAt (seg T t m) (i, (wp, wq), sp, sq)).2.2 (wp, wq) (ap, aq)] 0 true, .arr (.prod (.int .i64) (.int .i64)) l 2 wr, .arr (.prod .str (.prod (.prod (.int .i64) (.int .i64)) (.prod (.int .i64) (.int .i64)))) T 5 wT]⟩
  | _, _ => noSpec
set_option maxHeartbeats 1600000 in
theorem ok_cold : SpecOk Try.prog 65 s_cold := by
  intro args S h; unfold s_cold at h ⊢; (split at h <;> first | exact False.elim h | skip)
  dsimp only at h ⊢
  rename_i b up uq s n x vp vb gp gq t m y i wp wq sp sq ap aq bad l wr T wT
  obtain ⟨rfl, h1, hi, hg, hw, ha0, hth⟩ := h
  have hM := seg_len h1.1
  obtain ⟨⟨nm, ⟨Lp, Lq⟩, tp, tq⟩, ha⟩ := get_some (l := seg T t m) (i := i.toNat) (by omega)
  have e : thAt (seg T t m) (i, (wp, wq), sp, sq) = (nm, (Lp, Lq), tp, tq) := by unfold thAt; rw [ha]; rfl
  have hsf := hth _ ha
  dsimp only at hsf
  rw [e]
  have h2 := smF_st (gp, gq) (wp, wq)
  have h3 := smF_st (tp, tq) (wp, wq)
  have h4 := smF_mu (ap, aq) (stV (gp, gq) (wp, wq))
  refine funW tabOk (E := [(24, s_strO), (54, s_mulO), (29, s_divO)]) ⟨ok_strO, ok_mulO, ok_divO, trivial⟩ [(1, [(2, 1), (12, 0), (12, 1), (14, 0), (14, 1), (17, 0), (17, 1), (19, 0), (19, 1)])] (k := 3) (fn := Try.f65) rfl rfl rfl rfl rfl rfl ?_
  (repeat' ((try (conv => whnf)); first | (with_reducible first | refine And.intro ?_ ?_ | refine WX.of ?_ | exact VC.mk rfl | exact True.intro | exact VC.mk ⟨rfl, fun e => e⟩ | exact VC.mk ⟨fun e => e, rfl⟩ | exact VC.mk (Nat.le_refl _) | exact drawOk_i (by decide +kernel) (by decide +kernel) (by decide +kernel)) | ((with_reducible refine VC.mk ?_); first | (dsimp only; done) | omega | (congr 1; (try simp (disch := omega) only [w64]); omega) | exact ⟨rfl, rfl⟩ | (refine ⟨?_, ?_, ?_⟩; assumption; assumption; omega) | (refine ⟨Nat.le_trans (Nat.mul_le_mul_left _ (m := 1000) ?_) ?_, ?_⟩; decide; omega; omega)) | ((with_reducible refine VC.mk ?_); exact ⟨rfl, hg, hw⟩) | ((with_reducible refine VC.mk ?_); exact ⟨rfl, hsf, hw⟩) | ((with_reducible refine VC.mk ?_); exact ⟨rfl, ha0, h2⟩) | ((with_reducible refine VC.mk ?_); exact ⟨rfl, h4, h3⟩) | ((with_reducible refine VC.mk ?_); exact hi) | with_reducible refine atL_p (seg_get ha).1 ?_ | with_reducible refine splitT ?_ | with_reducible refine splitF ?_ | ((with_reducible refine splitB.mk (fun h => ?_) (fun h => ?_)) <;> (try simp only [decide_eq_true_eq, decide_eq_false_iff_not, ne_eq, Decidable.not_not, Int.not_lt, Int.not_le, Bool.not_eq_true', Bool.not_eq_false'] at h) <;> (try simp (disch := omega) only [w64] at h) <;> (try (exfalso; first | omega | exact h True.intro | (simp only [and_self, not_true_eq_false] at h; done) | (simp only [beq_self_eq_true, Bool.true_eq_false, reduceCtorEq] at h; done)))) | (with_reducible intro hz; (try exact absurd hz (Nat.succ_ne_zero _)))))
  all_goals exact ⟨by simp only [bkB, Bool.or_assoc]⟩
theorem st_pos {g w t : FrT} (hg : gwB g.1 g.2 = true) (hw : fOk w.1 w.2 = true) (ha : (w.1.natAbs : Int) ≤ 100 * w.2) (h : stO g w = some t) : 0 < t.1 := by
  obtain ⟨g1, g2⟩ := g
  obtain ⟨w1, w2⟩ := w
  dsimp only at hg hw ha
  unfold gwB at hg
  simp only [Bool.and_eq_true, decide_eq_true_eq] at hg
  obtain ⟨⟨hgf, hg0⟩, hgk⟩ := hg
  have hgs := smF_ok hgf
  have hws := smF_ok hw
  unfold smF at hgs hws
  have a1 : 1000 * g1 * (w1.natAbs : Int) ≤ g2 * (100 * w2) := Int.mul_le_mul hgk ha (by omega) (by omega)
  have a2 : g1 * (-(w1.natAbs : Int)) ≤ g1 * w1 := Int.mul_le_mul_of_nonneg_left (by omega) hg0
  have a3 := mulPos hgs.2.1 hws.2.1
  have e1 : 1000 * g1 * (w1.natAbs : Int) = 1000 * (g1 * (w1.natAbs : Int)) := Int.mul_assoc ..
  have e2 : g2 * (100 * w2) = 100 * (g2 * w2) := Int.mul_left_comm ..
  rw [e1, e2] at a1
  rw [Int.mul_neg] at a2
  unfold stO at h
  cases hm : muO (g1, g2) (w1, w2) with
  | none => rw [hm] at h; simp at h
  | some m =>
    rw [hm] at h
    simp only [Option.bind_some] at h
    unfold muO rO at hm
    split at hm
    · obtain rfl := Option.some.inj hm
      dsimp only at h
      have b1 := red_back (p := g1 * w1) (q := g2 * w2) (by omega)
      have hG := redG_pos (p := g1 * w1) (q := g2 * w2) (by omega)
      have hQ := redQ_pos (p := g1 * w1) (q := g2 * w2) (by omega)
      unfold adO rO at h
      split at h
      · obtain rfl := Option.some.inj h
        dsimp only
        have hX : 0 < 1 * redQ (g1 * w1) (g2 * w2) + redP (g1 * w1) (g2 * w2) * 1 := by
          apply Classical.byContradiction; intro hn
          have : redG (g1 * w1) (g2 * w2) * (1 * redQ (g1 * w1) (g2 * w2) + redP (g1 * w1) (g2 * w2) * 1) ≤ 0 := by
            have := Int.mul_nonneg (show 0 ≤ redG (g1 * w1) (g2 * w2) by omega) (show 0 ≤ -(1 * redQ (g1 * w1) (g2 * w2) + redP (g1 * w1) (g2 * w2) * 1) by omega)
            rw [Int.mul_neg] at this; omega
          rw [Int.mul_add, Int.one_mul, Int.mul_one, ← b1.1, ← b1.2] at this
          omega
        have b2 := red_back (p := 1 * redQ (g1 * w1) (g2 * w2) + redP (g1 * w1) (g2 * w2) * 1) (q := 1 * redQ (g1 * w1) (g2 * w2)) (by omega)
        have hG2 := redG_pos (p := 1 * redQ (g1 * w1) (g2 * w2) + redP (g1 * w1) (g2 * w2) * 1) (q := 1 * redQ (g1 * w1) (g2 * w2)) (by omega)
        apply Classical.byContradiction; intro hn
        have := Int.mul_nonneg (show 0 ≤ redG (1 * redQ (g1 * w1) (g2 * w2) + redP (g1 * w1) (g2 * w2) * 1) (1 * redQ (g1 * w1) (g2 * w2)) by omega) (show 0 ≤ -redP (1 * redQ (g1 * w1) (g2 * w2) + redP (g1 * w1) (g2 * w2) * 1) (1 * redQ (g1 * w1) (g2 * w2)) by omega)
        rw [Int.mul_neg, ← b2.1] at this
        omega
      · simp at h
    · simp at hm
def s_rdgC : Spec := fun args S => match args, S with
  | [.agg [.int .i64 up, .int .i64 uq, .sl 0 s n x, .int .i64 vp, .bool vb, .int .i64 gp, .int .i64 gq, .sl 1 t m y], .agg [.int .i64 i, .int .i64 wp, .int .i64 wq, .int .i64 sp, .int .i64 sq], .agg [.int .i64 fp, .int .i64 fq], .agg [.int .i64 kp, .int .i64 kq]], [.arr (.prod (.int .i64) (.int .i64)) l 2 wr, .arr (.prod .str (.prod (.prod (.int .i64) (.int .i64)) (.prod (.int .i64) (.int .i64)))) T 5 wT] => ⟨(s + n ≤ l.length ∧ n ≤ 1048576) ∧ (t + m ≤ T.length ∧ m ≤ 1048576) ∧ ∀ (j : Nat) (a : ThT), T[j]? = some a → a.1.length < 4611686018427387904, .int .i64 (if (bnB up uq vp gp gq (seg l s n) (seg T t m) && shB m (i, (wp, wq), sp, sq) && (fOk fp fq && fOk kp kq)) = true then 0 else 1), [.arr (.prod (.int .i64) (.int .i64)) l 2 wr, .arr (.prod .str (.prod (.prod (.int .i64) (.int .i64)) (.prod (.int .i64) (.int .i64)))) T 5 wT]⟩
  | _, _ => noSpec
theorem ok_readingsCode : SpecOk Try.prog 64 s_rdgC := by
  intro args S h; unfold s_rdgC at h ⊢; (split at h <;> first | exact False.elim h | skip)
  dsimp only at h ⊢
  rename_i up uq s n x vp vb gp gq t m y i wp wq sp sq fp fq kp kq l wr T wT
  have hq := h
  refine funW tabOk (E := [(52, s_vShot), (70, s_allF)]) ⟨ok_ValidShotI, ok_areValid, trivial⟩ [] (k := 2) (fn := Try.f64) rfl rfl rfl rfl rfl rfl ?_
  (repeat' ((try (conv => whnf)); first | (with_reducible first | refine And.intro ?_ ?_ | refine WX.of ?_ | exact VC.mk rfl | exact True.intro | exact VC.mk ⟨rfl, fun e => e⟩ | exact VC.mk ⟨fun e => e, rfl⟩ | exact VC.mk (Nat.le_refl _) | exact drawOk_i (by decide +kernel) (by decide +kernel) (by decide +kernel)) | ((with_reducible refine VC.mk ?_); first | (dsimp only; done) | omega | (congr 1; (try simp (disch := omega) only [w64]); omega) | exact ⟨rfl, rfl⟩ | (refine ⟨?_, ?_, ?_⟩; assumption; assumption; omega) | (refine ⟨Nat.le_trans (Nat.mul_le_mul_left _ (m := 1000) ?_) ?_, ?_⟩; decide; omega; omega)) | ((with_reducible refine VC.mk ?_); exact hq) | ((with_reducible refine VC.mk ?_); exact ⟨Nat.le_refl 2, (by omega)⟩) | with_reducible refine splitT ?_ | with_reducible refine splitF ?_ | ((with_reducible refine splitB.mk (fun h => ?_) (fun h => ?_)) <;> (try simp only [decide_eq_true_eq, decide_eq_false_iff_not, ne_eq, Decidable.not_not, Int.not_lt, Int.not_le, Bool.not_eq_true', Bool.not_eq_false'] at h) <;> (try simp (disch := omega) only [w64] at h) <;> (try (exfalso; first | omega | exact h True.intro | (simp only [and_self, not_true_eq_false] at h; done) | (simp only [beq_self_eq_true, Bool.true_eq_false, reduceCtorEq] at h; done)))) | (with_reducible intro hz; (try exact absurd hz (Nat.succ_ne_zero _)))))
  all_goals (first | (rw [allF_two] at h) | skip)
  all_goals exact ⟨by simp_all⟩
theorem bn_sf {up uq vp gp gq : Int} {E : List (Int × Int)} {T : List ThT} (h : bnB up uq vp gp gq E T = true) {k : Nat} : ∀ (a : ThT), T[k]? = some a → smF a.2.2.1 a.2.2.2 := fun a ha => smF_ok (bn_at h ha).2.1
def s_len : Spec := fun args S => match args, S with
  | [.agg [.int .i64 up, .int .i64 uq, .sl 0 s n x, .int .i64 vp, .bool vb, .int .i64 gp, .int .i64 gq, .sl 1 t m y], .agg [.int .i64 i, .int .i64 wp, .int .i64 wq, .int .i64 sp, .int .i64 sq], .agg [.int .i64 fp, .int .i64 fq], .agg [.int .i64 kp, .int .i64 kq]], [.arr (.prod (.int .i64) (.int .i64)) l 2 wr, .arr (.prod .str (.prod (.prod (.int .i64) (.int .i64)) (.prod (.int .i64) (.int .i64)))) T 5 wT] => ⟨(s + n ≤ l.length ∧ n ≤ 1048576) ∧ (t + m ≤ T.length ∧ m ≤ 1048576) ∧ ∀ (j : Nat) (a : ThT), T[j]? = some a → a.1.length < 4611686018427387904, .tup [.agg [.int .i64 (if okC (bnB up uq vp gp gq (seg l s n) (seg T t m) && shB m (i, (wp, wq), sp, sq) && (fOk fp fq && fOk kp kq)) (lnT (gp, gq) (seg T t m) (i, (wp, wq), sp, sq) (fp, fq) (kp, kq)) = 0 then (zv (lnT (gp, gq) (seg T t m) (i, (wp, wq), sp, sq) (fp, fq) (kp, kq))).1 else 0), .int .i64 (if okC (bnB up uq vp gp gq (seg l s n) (seg T t m) && shB m (i, (wp, wq), sp, sq) && (fOk fp fq && fOk kp kq)) (lnT (gp, gq) (seg T t m) (i, (wp, wq), sp, sq) (fp, fq) (kp, kq)) = 0 then (zv (lnT (gp, gq) (seg T t m) (i, (wp, wq), sp, sq) (fp, fq) (kp, kq))).2 else 0)], .int .i64 (okC (bnB up uq vp gp gq (seg l s n) (seg T t m) && shB m (i, (wp, wq), sp, sq) && (fOk fp fq && fOk kp kq)) (lnT (gp, gq) (seg T t m) (i, (wp, wq), sp, sq) (fp, fq) (kp, kq)))], [.arr (.prod (.int .i64) (.int .i64)) l 2 wr, .arr (.prod .str (.prod (.prod (.int .i64) (.int .i64)) (.prod (.int .i64) (.int .i64)))) T 5 wT]⟩
  | _, _ => noSpec
set_option maxHeartbeats 1600000 in
theorem ok_LengthFromI : SpecOk Try.prog 33 s_len := by
  intro args S h; unfold s_len at h ⊢; (split at h <;> first | exact False.elim h | skip)
  dsimp only at h ⊢
  rename_i up uq s n x vp vb gp gq t m y i wp wq sp sq fp fq kp kq l wr T wT
  have hq := h
  have hM := seg_len h.2.1.1
  cases hk : (bnB up uq vp gp gq (seg l s n) (seg T t m) && shB m (i, (wp, wq), sp, sq) && (fOk fp fq && fOk kp kq)) with
  | false =>
    refine funW tabOk (E := [(64, s_rdgC), (25, s_subO), (65, s_cold), (60, s_one)]) ⟨ok_readingsCode, ok_subO, ok_cold, ok_one, trivial⟩ [(5, [(2, 1), (3, 1)])] (k := 2) (fn := Try.f33) rfl rfl rfl rfl rfl rfl ?_
    (repeat' ((try (conv => whnf)); first | (with_reducible first | refine And.intro ?_ ?_ | refine WX.of ?_ | exact VC.mk rfl | exact True.intro | exact VC.mk ⟨rfl, fun e => e⟩ | exact VC.mk ⟨fun e => e, rfl⟩ | exact VC.mk (Nat.le_refl _) | exact drawOk_i (by decide +kernel) (by decide +kernel) (by decide +kernel)) | ((with_reducible refine VC.mk ?_); first | (dsimp only; done) | omega | (congr 1; (try simp (disch := omega) only [w64]); omega) | exact ⟨rfl, rfl⟩ | (refine ⟨?_, ?_, ?_⟩; assumption; assumption; omega) | (refine ⟨Nat.le_trans (Nat.mul_le_mul_left _ (m := 1000) ?_) ?_, ?_⟩; decide; omega; omega)) | ((with_reducible refine VC.mk ?_); exact hq) | with_reducible refine splitT ?_ | with_reducible refine splitF ?_ | ((with_reducible refine splitB.mk (fun h => ?_) (fun h => ?_)) <;> (try simp only [decide_eq_true_eq, decide_eq_false_iff_not, ne_eq, Decidable.not_not, Int.not_lt, Int.not_le, Bool.not_eq_true', Bool.not_eq_false'] at h) <;> (try simp (disch := omega) only [w64] at h) <;> (try (exfalso; first | omega | exact h True.intro | (simp only [and_self, not_true_eq_false] at h; done) | (simp only [beq_self_eq_true, Bool.true_eq_false, reduceCtorEq] at h; done)))) | (with_reducible intro hz; (try exact absurd hz (Nat.succ_ne_zero _)))))
    · rw [hk]; exact ⟨by simp [okC]⟩
    all_goals (rw [hk] at h; simp at h)
  | true =>
    have hk2 := hk
    rw [Bool.and_eq_true, Bool.and_eq_true, Bool.and_eq_true] at hk2
    obtain ⟨⟨hb, hs0⟩, hf, hkk⟩ := hk2
    have hs := sh_at hs0
    have hgg := bn_g hb
    have hd := smF_sb (kp, kq) (fp, fq)
    have hsf := bn_sf hb (k := i.toNat)
    have hbk := bk_e (gp, gq) (thAt (seg T t m) (i, (wp, wq), sp, sq)).2.2 (wp, wq) (tv (sbO (kp, kq) (fp, fq)))
    refine funW tabOk (E := [(64, s_rdgC), (25, s_subO), (65, s_cold), (60, s_one)]) ⟨ok_readingsCode, ok_subO, ok_cold, ok_one, trivial⟩ [(5, [(2, 1), (3, 1)])] (k := 2) (fn := Try.f33) rfl rfl rfl rfl rfl rfl ?_
    (repeat' ((try (conv => whnf)); first | (with_reducible first | refine And.intro ?_ ?_ | refine WX.of ?_ | exact VC.mk rfl | exact True.intro | exact VC.mk ⟨rfl, fun e => e⟩ | exact VC.mk ⟨fun e => e, rfl⟩ | exact VC.mk (Nat.le_refl _) | exact drawOk_i (by decide +kernel) (by decide +kernel) (by decide +kernel)) | ((with_reducible refine VC.mk ?_); first | (dsimp only; done) | omega | (congr 1; (try simp (disch := omega) only [w64]); omega) | exact ⟨rfl, rfl⟩ | (refine ⟨?_, ?_, ?_⟩; assumption; assumption; omega) | (refine ⟨Nat.le_trans (Nat.mul_le_mul_left _ (m := 1000) ?_) ?_, ?_⟩; decide; omega; omega)) | ((with_reducible refine VC.mk ?_); exact hq) | ((with_reducible refine VC.mk ?_); exact ⟨rfl, smF_ok hkk, smF_ok hf⟩) | ((with_reducible refine VC.mk ?_); exact ⟨rfl, hq.2.1, hs.1, smF_ok hgg.1, smF_ok hs.2.1, hd, hsf⟩) | with_reducible refine splitT ?_ | with_reducible refine splitF ?_ | ((with_reducible refine splitB.mk (fun h => ?_) (fun h => ?_)) <;> (try simp only [decide_eq_true_eq, decide_eq_false_iff_not, ne_eq, Decidable.not_not, Int.not_lt, Int.not_le, Bool.not_eq_true', Bool.not_eq_false'] at h) <;> (try simp (disch := omega) only [w64] at h) <;> (try (exfalso; first | omega | exact h True.intro | (simp only [and_self, not_true_eq_false] at h; done) | (simp only [beq_self_eq_true, Bool.true_eq_false, reduceCtorEq] at h; done)))) | (with_reducible intro hz; (try exact absurd hz (Nat.succ_ne_zero _)))))
    · rw [hk] at h; simp at h
    · refine ⟨?_⟩
      have hln : lnT (gp, gq) (seg T t m) (i, (wp, wq), sp, sq) (fp, fq) (kp, kq) = (sbO (kp, kq) (fp, fq)).bind fun d => bkO (gp, gq) (thAt (seg T t m) (i, (wp, wq), sp, sq)).2.2 (wp, wq) d := rfl
      rw [hln]
      clear hln
      dsimp only
      generalize (thAt (seg T t m) (i, (wp, wq), sp, sq)).2.2 = th at hbk ⊢
      simp only [pr_eta, hbk.1]
      have hb2 := hbk.2
      cases hsb : sbO (kp, kq) (fp, fq) with
      | none => simp [okC, oC, zv]
      | some dd =>
        rw [hsb] at hb2
        simp only [tv, Option.getD_some] at hb2 ⊢
        simp only [Option.bind_some]
        rcases (bkO (gp, gq) th (wp, wq) dd).eq_none_or_eq_some with hv | ⟨v, hv⟩
        · simp [okC, oC, zv, hv]
        · simp [okC, oC, zv, hv, hb2 v hv]
def s_given : Spec := fun args S => match args, S with
  | [.ptr 0 0 0, .ptr 1 0 0, .agg [.int .i64 fp, .int .i64 fq], .agg [.int .i64 kp, .int .i64 kq]], [.box [.int .i64 up, .int .i64 uq, .sl 2 s n x, .int .i64 vp, .bool vb, .int .i64 gp, .int .i64 gq, .sl 3 t m y] true false, .arr (.prod (.int .i64) (.prod (.prod (.int .i64) (.int .i64)) (.prod (.int .i64) (.int .i64)))) [c] 0 true, .arr (.prod (.int .i64) (.int .i64)) l 2 wr, .arr (.prod .str (.prod (.prod (.int .i64) (.int .i64)) (.prod (.int .i64) (.int .i64)))) T 5 wT] => ⟨(s + n ≤ l.length ∧ n ≤ 1048576) ∧ (t + m ≤ T.length ∧ m ≤ 1048576) ∧ ∀ (j : Nat) (a : ThT), T[j]? = some a → a.1.length < 4611686018427387904, .bool (bnB up uq vp gp gq (seg l s n) (seg T t m) && shB m c && (fOk fp fq && fOk kp kq)), [.box [.int .i64 up, .int .i64 uq, .sl 2 s n x, .int .i64 vp, .bool vb, .int .i64 gp, .int .i64 gq, .sl 3 t m y] true false, .arr (.prod (.int .i64) (.prod (.prod (.int .i64) (.int .i64)) (.prod (.int .i64) (.int .i64)))) [c] 0 true, .arr (.prod (.int .i64) (.int .i64)) l 2 wr, .arr (.prod .str (.prod (.prod (.int .i64) (.int .i64)) (.prod (.int .i64) (.int .i64)))) T 5 wT]⟩
  | _, _ => noSpec
def s_l07Back : Spec := fun args S => match args, S with
  | [.ptr 0 0 0, .ptr 1 0 0, .agg [.int .i64 ap, .int .i64 aq]], [.box [.int .i64 up, .int .i64 uq, .sl 2 s n x, .int .i64 vp, .bool vb, .int .i64 gp, .int .i64 gq, .sl 3 t m y] true false, .arr (.prod (.int .i64) (.prod (.prod (.int .i64) (.int .i64)) (.prod (.int .i64) (.int .i64)))) [c] 0 true, .arr (.prod (.int .i64) (.int .i64)) l 2 wr, .arr (.prod .str (.prod (.prod (.int .i64) (.int .i64)) (.prod (.int .i64) (.int .i64)))) T 5 wT] => ⟨(t + m ≤ T.length ∧ m ≤ 1048576) ∧ bnB up uq vp gp gq (seg l s n) (seg T t m) = true ∧ shB m c = true ∧ smF ap aq, .tup [.agg [.int .i64 (zv (bkO (gp, gq) (thAt (seg T t m) c).2.2 c.2.1 (ap, aq))).1, .int .i64 (zv (bkO (gp, gq) (thAt (seg T t m) c).2.2 c.2.1 (ap, aq))).2], .int .i64 (oC (bkO (gp, gq) (thAt (seg T t m) c).2.2 c.2.1 (ap, aq)))], [.box [.int .i64 up, .int .i64 uq, .sl 2 s n x, .int .i64 vp, .bool vb, .int .i64 gp, .int .i64 gq, .sl 3 t m y] true false, .arr (.prod (.int .i64) (.prod (.prod (.int .i64) (.int .i64)) (.prod (.int .i64) (.int .i64)))) [c] 0 true, .arr (.prod (.int .i64) (.int .i64)) l 2 wr, .arr (.prod .str (.prod (.prod (.int .i64) (.int .i64)) (.prod (.int .i64) (.int .i64)))) T 5 wT]⟩
  | _, _ => noSpec
set_option maxHeartbeats 1600000 in
theorem ok_l07Back : SpecOk Try.prog 98 s_l07Back := by
  intro args S h; unfold s_l07Back at h ⊢; (split at h <;> first | exact False.elim h | skip)
  dsimp only at h ⊢
  rename_i ap aq up uq s n x vp vb gp gq t m y c l wr T wT
  obtain ⟨i, ⟨wp, wq⟩, sp, sq⟩ := c
  obtain ⟨h1, hb0, hs0, ha0⟩ := h
  have hM := seg_len h1.1
  have hs := sh_at hs0
  have hgg := bn_g hb0
  obtain ⟨⟨nm, ⟨Lp, Lq⟩, tp, tq⟩, ha⟩ := get_some (l := seg T t m) (i := i.toNat) (by have := hs.1; omega)
  have hb := bn_at hb0 ha
  dsimp only at hb
  have e : thAt (seg T t m) (i, (wp, wq), sp, sq) = (nm, (Lp, Lq), tp, tq) := by unfold thAt; rw [ha]; rfl
  have hi := hs.1
  rw [e]
  dsimp only
  refine funW tabOk (E := [(44, s_stZ), (81, s_mulZ), (49, s_divZ)]) ⟨ok_stZ, ok_l01MulZ, ok_l01DivZ, trivial⟩ [(1, [(12, 0)]), (4, [(19, 0)])] (k := 4) (fn := Try.f98) rfl rfl rfl rfl rfl rfl ?_
  (repeat' ((try (conv => whnf)); first | (with_reducible first | refine And.intro ?_ ?_ | refine WX.of ?_ | exact VC.mk rfl | exact True.intro | exact VC.mk ⟨rfl, fun e => e⟩ | exact VC.mk ⟨fun e => e, rfl⟩ | exact VC.mk (Nat.le_refl _) | exact drawOk_i (by decide +kernel) (by decide +kernel) (by decide +kernel)) | ((with_reducible refine VC.mk ?_); first | (dsimp only; done) | omega | (congr 1; (try simp (disch := omega) only [w64]); omega) | exact ⟨rfl, rfl⟩ | (refine ⟨?_, ?_, ?_⟩; assumption; assumption; omega) | (refine ⟨Nat.le_trans (Nat.mul_le_mul_left _ (m := 1000) ?_) ?_, ?_⟩; decide; omega; omega)) | ((with_reducible refine VC.mk ?_); exact ⟨smF_ok hgg.1, smF_ok hs.2.1⟩) | ((with_reducible refine VC.mk ?_); exact ⟨smF_ok hb.2.1, smF_ok hs.2.1⟩) | ((with_reducible refine VC.mk ?_); exact hi) | with_reducible refine atL_p (seg_get ha).1 ?_ | with_reducible refine splitT ?_ | with_reducible refine splitF ?_ | ((with_reducible refine splitB.mk (fun h => ?_) (fun h => ?_)) <;> (try simp only [decide_eq_true_eq, decide_eq_false_iff_not, ne_eq, Decidable.not_not, Int.not_lt, Int.not_le, Bool.not_eq_true', Bool.not_eq_false'] at h) <;> (try simp (disch := omega) only [w64] at h) <;> (try (exfalso; first | omega | exact h True.intro | (simp only [and_self, not_true_eq_false] at h; done) | (simp only [beq_self_eq_true, Bool.true_eq_false, reduceCtorEq] at h; done)))) | (with_reducible intro hz; (try exact absurd hz (Nat.succ_ne_zero _)))))
  · have e1 := oC_n h
    refine ⟨?_⟩; simp [bkO, e1, zv, oC]
  · rename_i h0
    obtain ⟨v, ev⟩ := oC_s h0
    have e2 := oC_n h
    refine ⟨?_⟩; simp [bkO, ev, e2, zv, oC]
  · rename_i h0
    obtain ⟨v, ev⟩ := oC_s h0
    exact ⟨⟨ha0, by dsimp only; rw [ev]; exact smF_ok (stO_f ev)⟩⟩
  · rename_i h0 h1
    obtain ⟨v, ev⟩ := oC_s h0
    obtain ⟨u, eu⟩ := oC_s h1
    rw [ev] at h
    have e3 : muO (ap, aq) v = none := oC_n h
    refine ⟨?_⟩
    dsimp only
    rw [ev]
    show SV.tup [_, SV.int _ (oC (muO (ap, aq) v))] = _
    simp [bkO, ev, eu, e3, zv, oC]
  · rename_i h0 h1
    obtain ⟨v, ev⟩ := oC_s h0
    obtain ⟨u, eu⟩ := oC_s h1
    obtain ⟨z, ez⟩ := oC_s h
    have hp := st_pos (g := (tp, tq)) (w := (wp, wq)) hb.2.2 hs.2.1 hs.2.2.1 eu
    refine ⟨?_⟩
    dsimp only
    rw [ez, eu]
    exact ⟨smF_ok (rO_f ez), smF_ok (stO_f eu), by show u.1 ≠ 0; omega⟩
  · rename_i h0 h1
    obtain ⟨v, ev⟩ := oC_s h0
    obtain ⟨u, eu⟩ := oC_s h1
    obtain ⟨z, ez⟩ := oC_s h
    have ez2 := ez
    rw [ev] at ez2
    have ez3 : muO (ap, aq) v = some z := ez2
    have hbk : bkO (gp, gq) (tp, tq) (wp, wq) (ap, aq) = dvO z u := by simp [bkO, ev, eu, ez3]
    refine ⟨?_⟩
    rw [hbk]
    dsimp only
    rw [ez, eu]
    rfl
def s_l07Length : Spec := fun args S => match args, S with
  | [.ptr 0 0 0, .ptr 1 0 0, .agg [.int .i64 fp, .int .i64 fq], .agg [.int .i64 kp, .int .i64 kq]], [.box [.int .i64 up, .int .i64 uq, .sl 2 s n x, .int .i64 vp, .bool vb, .int .i64 gp, .int .i64 gq, .sl 3 t m y] true false, .arr (.prod (.int .i64) (.prod (.prod (.int .i64) (.int .i64)) (.prod (.int .i64) (.int .i64)))) [c] 0 true, .arr (.prod (.int .i64) (.int .i64)) l 2 wr, .arr (.prod .str (.prod (.prod (.int .i64) (.int .i64)) (.prod (.int .i64) (.int .i64)))) T 5 wT] => ⟨(t + m ≤ T.length ∧ m ≤ 1048576) ∧ bnB up uq vp gp gq (seg l s n) (seg T t m) = true ∧ shB m c = true ∧ smF fp fq ∧ smF kp kq, .tup [.agg [.int .i64 (zv (lnT (gp, gq) (seg T t m) c (fp, fq) (kp, kq))).1, .int .i64 (zv (lnT (gp, gq) (seg T t m) c (fp, fq) (kp, kq))).2], .int .i64 (oC (lnT (gp, gq) (seg T t m) c (fp, fq) (kp, kq)))], [.box [.int .i64 up, .int .i64 uq, .sl 2 s n x, .int .i64 vp, .bool vb, .int .i64 gp, .int .i64 gq, .sl 3 t m y] true false, .arr (.prod (.int .i64) (.prod (.prod (.int .i64) (.int .i64)) (.prod (.int .i64) (.int .i64)))) [c] 0 true, .arr (.prod (.int .i64) (.int .i64)) l 2 wr, .arr (.prod .str (.prod (.prod (.int .i64) (.int .i64)) (.prod (.int .i64) (.int .i64)))) T 5 wT]⟩
  | _, _ => noSpec
theorem ok_l07Length : SpecOk Try.prog 68 s_l07Length := by
  intro args S h; unfold s_l07Length at h ⊢; (split at h <;> first | exact False.elim h | skip)
  dsimp only at h ⊢
  rename_i fp fq kp kq up uq s n x vp vb gp gq t m y c l wr T wT
  obtain ⟨h1, hb0, hs0, hf, hk⟩ := h
  refine funW tabOk (E := [(45, s_subZ), (98, s_l07Back)]) ⟨ok_l01SubZ, ok_l07Back, trivial⟩ [] (k := 4) (fn := Try.f68) rfl rfl rfl rfl rfl rfl ?_
  (repeat' ((try (conv => whnf)); first | (with_reducible first | refine And.intro ?_ ?_ | refine WX.of ?_ | exact VC.mk rfl | exact True.intro | exact VC.mk ⟨rfl, fun e => e⟩ | exact VC.mk ⟨fun e => e, rfl⟩ | exact VC.mk (Nat.le_refl _) | exact drawOk_i (by decide +kernel) (by decide +kernel) (by decide +kernel)) | ((with_reducible refine VC.mk ?_); first | (dsimp only; done) | omega | (congr 1; (try simp (disch := omega) only [w64]); omega) | exact ⟨rfl, rfl⟩ | (refine ⟨?_, ?_, ?_⟩; assumption; assumption; omega) | (refine ⟨Nat.le_trans (Nat.mul_le_mul_left _ (m := 1000) ?_) ?_, ?_⟩; decide; omega; omega)) | ((with_reducible refine VC.mk ?_); exact ⟨hk, hf⟩) | with_reducible refine splitT ?_ | with_reducible refine splitF ?_ | ((with_reducible refine splitB.mk (fun h => ?_) (fun h => ?_)) <;> (try simp only [decide_eq_true_eq, decide_eq_false_iff_not, ne_eq, Decidable.not_not, Int.not_lt, Int.not_le, Bool.not_eq_true', Bool.not_eq_false'] at h) <;> (try simp (disch := omega) only [w64] at h) <;> (try (exfalso; first | omega | exact h True.intro | (simp only [and_self, not_true_eq_false] at h; done) | (simp only [beq_self_eq_true, Bool.true_eq_false, reduceCtorEq] at h; done)))) | (with_reducible intro hz; (try exact absurd hz (Nat.succ_ne_zero _)))))
  · have e := oC_n h
    refine ⟨?_⟩; simp [lnT, lnO, e, zv, oC]
  · obtain ⟨v, ev⟩ := oC_s h
    exact ⟨⟨h1, hb0, hs0, by dsimp only; rw [ev]; exact smF_ok (rO_f ev)⟩⟩
  · obtain ⟨v, ev⟩ := oC_s h
    have hln : lnT (gp, gq) (seg T t m) c (fp, fq) (kp, kq) = bkO (gp, gq) (thAt (seg T t m) c).2.2 c.2.1 v := by simp [lnT, lnO, ev]
    refine ⟨?_⟩
    rw [hln]
    dsimp only
    rw [ev]
    rfl
end Go.Proofs.Ytbmejhabgoimeaa.Eng
