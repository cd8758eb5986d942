/- Lemmas for the proof, no conditions of their own. -/
import Derived.Test.YtbmejhabgoimeaaGreatQA4
set_option linter.unusedVariables false
set_option linter.unusedSimpArgs false
namespace Go.Proofs.YtbmejhabgoimeaaGreat.Eng
open Go Go.RowKit
set_option maxRecDepth 100000
def s_l07Ends1 (e : FrT) : Spec := fun args S => match args, S with
  | [.ptr 0 0 0, .ptr 1 0 0], [.box [.int .i64 up, .int .i64 uq, .sl 2 s n x, .int .i64 vp, .bool vb, .int .i64 gp, .int .i64 gq, .sl 3 t m y] true false, .arr (.prod (.int .i64) (.prod (.prod (.int .i64) (.int .i64)) (.prod (.int .i64) (.int .i64)))) [c] 0 true, .arr (.prod (.int .i64) (.int .i64)) l 2 wr, .arr (.prod .str (.prod (.prod (.int .i64) (.int .i64)) (.prod (.int .i64) (.int .i64)))) T 5 wT] => ⟨((t + m ≤ T.length ∧ m ≤ 1048576) ∧ bnB up uq vp gp gq (seg l s n) (seg T t m) = true ∧ shB m c = true) ∧ enT (seg T t m) c = some e, .tup [.agg [.int .i64 c.2.2.1, .int .i64 c.2.2.2], .agg [.int .i64 e.1, .int .i64 e.2], .int .i64 0], [.box [.int .i64 up, .int .i64 uq, .sl 2 s n x, .int .i64 vp, .bool vb, .int .i64 gp, .int .i64 gq, .sl 3 t m y] true false, .arr (.prod (.int .i64) (.prod (.prod (.int .i64) (.int .i64)) (.prod (.int .i64) (.int .i64)))) [c] 0 true, .arr (.prod (.int .i64) (.int .i64)) l 2 wr, .arr (.prod .str (.prod (.prod (.int .i64) (.int .i64)) (.prod (.int .i64) (.int .i64)))) T 5 wT]⟩
  | _, _ => noSpec
theorem ok_l07Ends1 (e : FrT) : SpecOk Tryz.prog 112 (s_l07Ends1 e) := by
  intro args S h; unfold s_l07Ends1 at h ⊢; (split at h <;> first | exact False.elim h | skip)
  dsimp only at h ⊢
  rename_i up uq s n x vp vb gp gq t m y c l wr T wT
  have h2 := ok_l07Ends [.ptr 0 0 0, .ptr 1 0 0] [.box [.int .i64 up, .int .i64 uq, .sl 2 s n x, .int .i64 vp, .bool vb, .int .i64 gp, .int .i64 gq, .sl 3 t m y] true false, .arr (.prod (.int .i64) (.prod (.prod (.int .i64) (.int .i64)) (.prod (.int .i64) (.int .i64)))) [c] 0 true, .arr (.prod (.int .i64) (.int .i64)) l 2 wr, .arr (.prod .str (.prod (.prod (.int .i64) (.int .i64)) (.prod (.int .i64) (.int .i64)))) T 5 wT] h.1
  simp only [s_l07Ends, h.2, oC, zv_s, if_true, Option.isSome_some] at h2
  exact h2
def s_stZP (v : FrT) : Spec := fun args S => match args, S with
  | [.agg [.int .i64 p, .int .i64 q], .agg [.int .i64 p', .int .i64 q']], [] => ⟨(smF p q ∧ smF p' q') ∧ stO (p, q) (p', q') = some v, .tup [.agg [.int .i64 v.1, .int .i64 v.2], .int .i64 0], []⟩
  | _, _ => noSpec
theorem ok_stZP (v : FrT) : SpecOk Tryz.prog 113 (s_stZP v) := by
  intro args S h; unfold s_stZP at h ⊢; (split at h <;> first | exact False.elim h | skip)
  dsimp only at h ⊢
  rename_i p q p' q'
  have h2 := ok_stZ [.agg [.int .i64 p, .int .i64 q], .agg [.int .i64 p', .int .i64 q']] [] h.1
  simp only [s_stZ, h.2, zv_s, oC, Option.isSome_some, if_true] at h2
  exact h2
def s_subZP (v : FrT) : Spec := fun args S => match args, S with
  | [.agg [.int .i64 p, .int .i64 q], .agg [.int .i64 p', .int .i64 q']], [] => ⟨(smF p q ∧ smF p' q') ∧ sbO (p, q) (p', q') = some v, .tup [.agg [.int .i64 v.1, .int .i64 v.2], .int .i64 0], []⟩
  | _, _ => noSpec
theorem ok_subZP (v : FrT) : SpecOk Tryz.prog 114 (s_subZP v) := by
  intro args S h; unfold s_subZP at h ⊢; (split at h <;> first | exact False.elim h | skip)
  dsimp only at h ⊢
  rename_i p q p' q'
  have h2 := ok_l01SubZ [.agg [.int .i64 p, .int .i64 q], .agg [.int .i64 p', .int .i64 q']] [] h.1
  simp only [s_subZ, h.2, zv_s, oC, Option.isSome_some, if_true] at h2
  exact h2
def s_l02ReadQ (u : FrT) (E : List FrT) : Spec := fun args S => match args, S with
  | [.ptr 0 0 0, .ptr 1 0 3, .agg [.int .i64 xp, .int .i64 xq]], [.box [.int .i64 up, .int .i64 uq, .sl 2 s n x] true false, .box [.int .i64 ap, .int .i64 aq, .sl 3 s' n' x', .int .i64 vp, .bool vb, .int .i64 gp, .int .i64 gq, .sl 4 t m y] true false, .arr (.prod (.int .i64) (.int .i64)) l 2 wr, .arr (.prod (.int .i64) (.int .i64)) l' 2 wr', .arr (.prod .str (.prod (.prod (.int .i64) (.int .i64)) (.prod (.int .i64) (.int .i64)))) T 5 wT] => ⟨((up, uq) = u ∧ seg l s n = E) ∧ s + n ≤ l.length ∧ scB up uq E = true ∧ (2 ≤ vp ∧ vp ≤ 40) ∧ smF xp xq, .tup [.agg [.int .i64 (eV (0, 0) (readE u E vp vb (xp, xq))).1, .int .i64 (eV (0, 0) (readE u E vp vb (xp, xq))).2], .int .i64 (eC (readE u E vp vb (xp, xq)))], [.box [.int .i64 up, .int .i64 uq, .sl 2 s n x] true false, .box [.int .i64 ap, .int .i64 aq, .sl 3 s' n' x', .int .i64 vp, .bool vb, .int .i64 gp, .int .i64 gq, .sl 4 t m y] true false, .arr (.prod (.int .i64) (.int .i64)) l 2 wr, .arr (.prod (.int .i64) (.int .i64)) l' 2 wr', .arr (.prod .str (.prod (.prod (.int .i64) (.int .i64)) (.prod (.int .i64) (.int .i64)))) T 5 wT]⟩
  | _, _ => noSpec
theorem ok_l02ReadQ (u : FrT) (E : List FrT) : SpecOk Tryz.prog 116 (s_l02ReadQ u E) := by
  intro args S h; unfold s_l02ReadQ at h ⊢; (split at h <;> first | exact False.elim h | skip)
  dsimp only at h ⊢
  obtain ⟨⟨rfl, rfl⟩, h⟩ := h
  exact ok_l02ReadV _ _ h
def s_l07Read : Spec := fun args S => match args, S with
  | [.ptr 0 0 0, .ptr 1 0 0], [.box [.int .i64 up, .int .i64 uq, .sl 2 s n x, .int .i64 vp, .bool vb, .int .i64 gp, .int .i64 gq, .sl 3 t m y] true false, .arr (.prod (.int .i64) (.prod (.prod (.int .i64) (.int .i64)) (.prod (.int .i64) (.int .i64)))) [c] 0 true, .arr (.prod (.int .i64) (.int .i64)) l 2 wr, .arr (.prod .str (.prod (.prod (.int .i64) (.int .i64)) (.prod (.int .i64) (.int .i64)))) T 5 wT] => ⟨((s + n ≤ l.length ∧ n ≤ 1048576) ∧ t + m ≤ T.length ∧ m ≤ 1048576) ∧ bnB up uq vp gp gq (seg l s n) (seg T t m) = true ∧ shB m c = true, .tup [.agg [.int .i64 (e2V (endsE (up, uq) (seg l s n) vp vb (gp, gq) (seg T t m) c)).1.1, .int .i64 (e2V (endsE (up, uq) (seg l s n) vp vb (gp, gq) (seg T t m) c)).1.2], .agg [.int .i64 (e2V (endsE (up, uq) (seg l s n) vp vb (gp, gq) (seg T t m) c)).2.1, .int .i64 (e2V (endsE (up, uq) (seg l s n) vp vb (gp, gq) (seg T t m) c)).2.2], .int .i64 (eC (endsE (up, uq) (seg l s n) vp vb (gp, gq) (seg T t m) c))], [.box [.int .i64 up, .int .i64 uq, .sl 2 s n x, .int .i64 vp, .bool vb, .int .i64 gp, .int .i64 gq, .sl 3 t m y] true false, .arr (.prod (.int .i64) (.prod (.prod (.int .i64) (.int .i64)) (.prod (.int .i64) (.int .i64)))) [c] 0 true, .arr (.prod (.int .i64) (.int .i64)) l 2 wr, .arr (.prod .str (.prod (.prod (.int .i64) (.int .i64)) (.prod (.int .i64) (.int .i64)))) T 5 wT]⟩
  | _, _ => noSpec
attribute [local irreducible] sbO muO adO dvO stO enT warmE readE endsE rdE bnB shB in
set_option maxHeartbeats 3200000 in
theorem ok_l07Read : SpecOk Tryz.prog 63 s_l07Read := by
  intro args S h; unfold s_l07Read at h ⊢; (split at h <;> first | exact False.elim h | skip)
  dsimp only at h ⊢
  rename_i up uq s n x vp vb gp gq t m y0 c l wr T wT
  obtain ⟨hq, hbn, hshb⟩ := h
  have hL := seg_len hq.1.1
  have hgg := bn_g hbn
  have hsh := sh_e hshb
  have hgs := smF_ok hgg.1
  have hws := smF_ok hsh.2.1
  rcases ends_c (up, uq) (seg l s n) vp vb (gp, gq) (seg T t m) c with ⟨he, hE⟩ | ⟨e, he, hcc⟩
  · rw [hE]
    have hcn : decide (oC (enT (seg T t m) c) ≠ 0) = true := by rw [he]; rfl
    refine funW tabOk (E := [(112, s_l07Ends)]) ⟨ok_l07Ends, trivial⟩ [(4, [(12, 0)]), (7, [(0, 1), (6, 0), (6, 1)]), (10, [(9, 0)]), (17, [(10, 0)]), (24, [(3, 1)])] (k := 4) (fn := Tryz.f63) rfl rfl rfl rfl rfl rfl ?_
    (repeat' ((try (conv => whnf)); first | (with_reducible first | refine And.intro ?_ ?_ | refine WX.of ?_) | exact zc | ((with_reducible refine VC.mk ?_); exact zw) | ((with_reducible refine splitT_of ?_ ?_); (focus (simp only [hcn, Bool.not_true, Bool.not_false, decide_true, decide_false]; done))) | ((with_reducible refine splitF_of ?_ ?_); (focus (simp only [hcn, Bool.not_true, Bool.not_false, decide_true, decide_false]; done))) | ((with_reducible refine VC.mk ?_); exact ⟨hq.2, hbn, hshb⟩) | (with_reducible first | refine splitT ?_ | refine splitF ?_) | ((with_reducible refine splitM.mk (fun hsm => ?_) (fun hsm => ?_)) <;> (try exact zx)) | ((with_reducible refine splitB.mk (fun h => ?_) (fun h => ?_)) <;> (try simp only [zs, ne_eq] at h) <;> (try simp (disch := omega) only [w64] at h) <;> (try exact zx)) | (with_reducible intro hz; (try exact absurd hz (Nat.succ_ne_zero _)))))
    all_goals exact ⟨by rw [he]; rfl⟩
  · rcases hcc with ⟨hs, hE⟩ | ⟨st, hs, hcc⟩
    · rw [hE]
      have hcn : decide (oC (stO (gp, gq) c.2.1) ≠ 0) = true := by rw [hs]; rfl
      refine funW tabOk (E := [(112, (s_l07Ends1 e)), (113, s_stZ)]) ⟨(ok_l07Ends1 e), ok_stZ, trivial⟩ [(4, [(12, 0)]), (7, [(0, 1), (6, 0), (6, 1)]), (10, [(9, 0)]), (17, [(10, 0)]), (24, [(3, 1)])] (k := 4) (fn := Tryz.f63) rfl rfl rfl rfl rfl rfl ?_
      (repeat' ((try (conv => whnf)); first | (with_reducible first | refine And.intro ?_ ?_ | refine WX.of ?_) | exact zc | ((with_reducible refine VC.mk ?_); exact zw) | ((with_reducible refine VC.mk ?_); exact ⟨⟨hq.2, hbn, hshb⟩, he⟩) | ((with_reducible refine VC.mk ?_); exact ⟨hgs, hws⟩) | ((with_reducible refine splitT_of ?_ ?_); (focus (simp only [hcn, pr_eta, Bool.not_true, Bool.not_false, decide_true, decide_false]; done))) | ((with_reducible refine splitF_of ?_ ?_); (focus (simp only [hcn, pr_eta, Bool.not_true, Bool.not_false, decide_true, decide_false]; done))) | (with_reducible first | refine splitT ?_ | refine splitF ?_) | ((with_reducible refine splitM.mk (fun hsm => ?_) (fun hsm => ?_)) <;> (try exact zx)) | ((with_reducible refine splitB.mk (fun h => ?_) (fun h => ?_)) <;> (try simp only [zs, ne_eq] at h) <;> (try simp (disch := omega) only [w64] at h) <;> (try exact zx)) | (with_reducible intro hz; (try exact absurd hz (Nat.succ_ne_zero _)))))
      all_goals exact ⟨by simp only [pr_eta]; rw [hs]; rfl⟩
    · have hst := smF_ok (stO_f hs)
      have hpos := st_pos hgg.2.1 hsh.2.1 hsh.2.2.1 hs
      rcases hcc with ⟨hb, hE⟩ | ⟨y, hb, hcc⟩
      · rw [hE]
        have hcn : decide (oC (sbO st (1, 1)) ≠ 0) = true := by rw [hb]; rfl
        refine funW tabOk (E := [(112, (s_l07Ends1 e)), (113, (s_stZP st)), (107, s_num), (114, s_subZ)]) ⟨(ok_l07Ends1 e), (ok_stZP st), ok_l01Whole, ok_l01SubZ, trivial⟩ [(4, [(12, 0)]), (7, [(0, 1), (6, 0), (6, 1)]), (10, [(9, 0)]), (17, [(10, 0)]), (24, [(3, 1)])] (k := 4) (fn := Tryz.f63) rfl rfl rfl rfl rfl rfl ?_
        (repeat' ((try (conv => whnf)); first | (with_reducible first | refine And.intro ?_ ?_ | refine WX.of ?_) | exact zc | ((with_reducible refine VC.mk ?_); exact zw) | ((with_reducible refine VC.mk ?_); exact ⟨⟨hq.2, hbn, hshb⟩, he⟩) | ((with_reducible refine VC.mk ?_); exact ⟨⟨hgs, hws⟩, hs⟩) | ((with_reducible refine VC.mk ?_); exact ⟨hst, smF_1 (by omega)⟩) | ((with_reducible refine splitT_of ?_ ?_); (focus (simp only [hcn, pr_eta, Bool.not_true, Bool.not_false, decide_true, decide_false]; done))) | ((with_reducible refine splitF_of ?_ ?_); (focus (simp only [hcn, pr_eta, Bool.not_true, Bool.not_false, decide_true, decide_false]; done))) | (with_reducible first | refine splitT ?_ | refine splitF ?_) | ((with_reducible refine splitM.mk (fun hsm => ?_) (fun hsm => ?_)) <;> (try exact zx)) | ((with_reducible refine splitB.mk (fun h => ?_) (fun h => ?_)) <;> (try simp only [zs, ne_eq] at h) <;> (try simp (disch := omega) only [w64] at h) <;> (try exact zx)) | (with_reducible intro hz; (try exact absurd hz (Nat.succ_ne_zero _)))))
        all_goals exact ⟨by simp only [pr_eta]; rw [hb]; rfl⟩
      · have hy := okO_sb _ _ _ hb
        rcases hcc with ⟨k, hk0, hw, hE⟩ | ⟨w, E', hw, hE⟩
        · rw [hE]
          have hcn : decide (k ≠ 0) = true := decide_eq_true hk0
          refine funW tabOk (E := [(112, (s_l07Ends1 e)), (113, (s_stZP st)), (107, s_num), (114, (s_subZP y)), (115, (s_warm0 k))]) ⟨(ok_l07Ends1 e), (ok_stZP st), ok_l01Whole, (ok_subZP y), (ok_warm0S k), trivial⟩ [(4, [(12, 0)]), (7, [(0, 1), (6, 0), (6, 1)]), (10, [(9, 0)]), (17, [(10, 0)]), (24, [(3, 1)])] (k := 4) (fn := Tryz.f63) rfl rfl rfl rfl rfl rfl ?_
          (repeat' ((try (conv => whnf)); first | (with_reducible first | refine And.intro ?_ ?_ | refine WX.of ?_) | exact zc | ((with_reducible refine VC.mk ?_); exact zw) | ((with_reducible refine splitT_of ?_ ?_); (focus (simp only [hcn, Bool.not_true, Bool.not_false, decide_true, decide_false]; done))) | ((with_reducible refine splitF_of ?_ ?_); (focus (simp only [hcn, Bool.not_true, Bool.not_false, decide_true, decide_false]; done))) | ((with_reducible refine VC.mk ?_); exact ⟨⟨hq.2, hbn, hshb⟩, he⟩) | ((with_reducible refine VC.mk ?_); exact ⟨⟨hgs, hws⟩, hs⟩) | ((with_reducible refine VC.mk ?_); exact ⟨⟨hst, smF_1 (by omega)⟩, hb⟩) | ((with_reducible refine VC.mk ?_); exact ⟨⟨hq.1.1, hgg.2.2.2.2, hy⟩, hw⟩) | (with_reducible first | refine splitT ?_ | refine splitF ?_) | ((with_reducible refine splitM.mk (fun hsm => ?_) (fun hsm => ?_)) <;> (try exact zx)) | ((with_reducible refine splitB.mk (fun h => ?_) (fun h => ?_)) <;> (try simp only [zs, ne_eq] at h) <;> (try simp (disch := omega) only [w64] at h) <;> (try exact zx)) | (with_reducible intro hz; (try exact absurd hz (Nat.succ_ne_zero _)))))
        · rw [hE]
          obtain ⟨f, hwo⟩ := (warm_ok hw).2
          have hE3 : E'.length = n := by rw [← hwo.2.2.2.2, wm_len, hL]
          have hE2 : seg E' 0 n = E' := seg_full hE3
          have hwsc := hwo.2.2.2.1
          have hE4 : 0 + n ≤ E'.length := by omega
          have hen := smF_ok (en_f he)
          have hbe := smF_ok hsh.2.2.2
          refine funW tabOk (E := [(112, (s_l07Ends1 e)), (113, (s_stZP st)), (107, s_num), (114, (s_subZP y)), (115, (s_warm1 w E')), (116, (s_l02ReadQ w E')), (106, s_divZ)]) ⟨(ok_l07Ends1 e), (ok_stZP st), ok_l01Whole, (ok_subZP y), (ok_warm1S w E'), (ok_l02ReadQ w E'), ok_l01DivZ, trivial⟩ [(4, [(12, 0)]), (7, [(0, 1), (6, 0), (6, 1)]), (10, [(9, 0)]), (17, [(10, 0)]), (24, [(3, 1)])] (k := 4) (fn := Tryz.f63) rfl rfl rfl rfl rfl rfl ?_
          (repeat' ((try (conv => whnf)); first | (with_reducible first | refine And.intro ?_ ?_ | refine WX.of ?_) | exact zc | ((with_reducible refine VC.mk ?_); exact zw) | ((with_reducible refine VC.mk ?_); exact ⟨⟨hq.2, hbn, hshb⟩, he⟩) | ((with_reducible refine VC.mk ?_); exact ⟨⟨hgs, hws⟩, hs⟩) | ((with_reducible refine VC.mk ?_); exact ⟨⟨hst, smF_1 (by omega)⟩, hb⟩) | ((with_reducible refine VC.mk ?_); exact ⟨⟨hq.1.1, hgg.2.2.2.2, hy⟩, hw⟩) | (with_reducible first | refine splitT ?_ | refine splitF ?_) | ((with_reducible refine splitM.mk (fun hsm => ?_) (fun hsm => ?_)) <;> (try exact zx)) | ((with_reducible refine splitB.mk (fun h => ?_) (fun h => ?_)) <;> (try simp only [zs, ne_eq] at h) <;> (try simp (disch := omega) only [w64] at h) <;> (try exact zx)) | (with_reducible intro hz; (try exact absurd hz (Nat.succ_ne_zero _)))))
          refine loopW tabOk (E := [(112, (s_l07Ends1 e)), (113, (s_stZP st)), (107, s_num), (114, (s_subZP y)), (115, (s_warm1 w E')), (116, (s_l02ReadQ w E')), (106, s_divZ)]) ⟨(ok_l07Ends1 e), (ok_stZP st), ok_l01Whole, (ok_subZP y), (ok_warm1S w E'), (ok_l02ReadQ w E'), ok_l01DivZ, trivial⟩ [(4, [(12, 0)]), (7, [(0, 1), (6, 0), (6, 1)]), (10, [(9, 0)]), (17, [(10, 0)]), (24, [(3, 1)])] (σ := List FrT) (fun O => match O with | [] => [(0, .ptr 0 0 0), (1, .ptr 1 0 0), (4, .ptr 4 0 0), (5, .ptr 5 0 0), (10, .ptr 6 0 0), (14, .ptr 7 0 0), (16, .ptr 9 0 0), (17, .int .i64 0)] | [_] => [(0, .ptr 0 0 0), (1, .ptr 1 0 0), (4, .ptr 4 0 0), (5, .ptr 5 0 0), (10, .ptr 6 0 0), (14, .ptr 7 0 0), (16, .ptr 9 0 0), (17, .int .i64 1)] | _ => [(0, .ptr 0 0 0), (1, .ptr 1 0 0), (4, .ptr 4 0 0), (5, .ptr 5 0 0), (10, .ptr 6 0 0), (14, .ptr 7 0 0), (16, .ptr 9 0 0), (17, .int .i64 2)]) (fun O => [.box [.int .i64 up, .int .i64 uq, .sl 2 s n x, .int .i64 vp, .bool vb, .int .i64 gp, .int .i64 gq, .sl 3 t m y0] true false, .arr (.prod (.int .i64) (.prod (.prod (.int .i64) (.int .i64)) (.prod (.int .i64) (.int .i64)))) [c] 0 true, .arr (.prod (.int .i64) (.int .i64)) l 2 wr, .arr (.prod .str (.prod (.prod (.int .i64) (.int .i64)) (.prod (.int .i64) (.int .i64)))) T 5 wT, .arr (.prod (.int .i64) (.int .i64)) [(0, 0)] 0 true, .arr (.prod (.int .i64) (.int .i64)) [(0, 0)] 0 true, .arr (.prod (.int .i64) (.int .i64)) [st] 0 true, .box [.int .i64 w.1, .int .i64 w.2, .sl 8 0 n 0] true false, .arr (.prod (.int .i64) (.int .i64)) E' 2 true, .arr (.prod (.int .i64) (.int .i64)) (match O with | [] => [c.2.2, e] | [d1] => [d1, e] | d1 :: d2 :: _ => [d1, d2]) 0 true]) (fun O => 2 - O.length) (fun O => O = [] ∨ (∃ d1, oneE w E' vp vb st c.2.2 = .ok d1 ∧ O = [d1]) ∨ ∃ d1 d2, oneE w E' vp vb st c.2.2 = .ok d1 ∧ oneE w E' vp vb st e = .ok d2 ∧ O = [d1, d2]) [] (.inl rfl) ?_ ?_
          · (repeat' ((try (conv => whnf)); first | (with_reducible first | refine And.intro ?_ ?_ | refine WX.of ?_) | exact zc | ((with_reducible refine VC.mk ?_); exact zw) | (with_reducible first | refine splitT ?_ | refine splitF ?_) | ((with_reducible refine splitM.mk (fun hsm => ?_) (fun hsm => ?_)) <;> (try exact zx)) | ((with_reducible refine splitB.mk (fun h => ?_) (fun h => ?_)) <;> (try simp only [zs, ne_eq] at h) <;> (try simp (disch := omega) only [w64] at h) <;> (try exact zx)) | (with_reducible intro hz; (try exact absurd hz (Nat.succ_ne_zero _)))))
          · intro O hO
            rcases hO with rfl | ⟨d1, h1, rfl⟩ | ⟨d1, d2, h1, h2, rfl⟩
            · (repeat' ((try (conv => whnf)); first | (with_reducible first | refine And.intro ?_ ?_ | refine WX.of ?_) | exact zc | ((with_reducible refine VC.mk ?_); exact zw) | ((with_reducible refine VC.mk ?_); exact ⟨⟨rfl, hE2⟩, hE4, hwsc, hgg.2.2.2.1, hbe⟩) | ((with_reducible refine VC.mk ?_); exact ⟨smF_ok (read_f (by assumption)), hst, (by omega)⟩) | ((with_reducible refine splitE (enz_read _ _ _ _ _) (fun c h => ?_) (fun a h => ?_)) <;> (rw [h])) | ((with_reducible refine splitO (by first  |  exact okO_sb _ _  |  exact okO_mu _ _  |  exact okO_ad _ _  |  exact okO_dv _ _  |  exact okO_bind _ _ fun _ => okO_ad _ _  |  exact okO_sb _ _) (fun h => ?_) (fun a b h hs => ?_)) <;> (try rw [h]) <;> (try simp only [zv_s] at h) <;> (try dsimp only at h)) | ((with_reducible refine splitT_of ?_ ?_); (focus (rfl))) | ((with_reducible refine splitF_of ?_ ?_); (focus (rfl))) | (with_reducible first | refine splitT ?_ | refine splitF ?_) | ((with_reducible refine splitM.mk (fun hsm => ?_) (fun hsm => ?_)) <;> (try exact zx)) | ((with_reducible refine splitB.mk (fun h => ?_) (fun h => ?_)) <;> (try simp only [zs, ne_eq] at h) <;> (try simp (disch := omega) only [w64] at h) <;> (try exact zx)) | (with_reducible intro hz; (try exact absurd hz (Nat.succ_ne_zero _)))))
              · rw [one_1 h]; exact ⟨rfl⟩
              · rename_i hr
                rw [one_2 hr h]; exact ⟨rfl⟩
              · rename_i hr
                refine ⟨[(a, b)], by simp, .inr (.inl ⟨(a, b), one_3 hr h, rfl⟩), ?_⟩
                (repeat' ((try (conv => whnf)); first | (with_reducible first | refine And.intro ?_ ?_ | refine WX.of ?_) | exact zc | ((with_reducible refine VC.mk ?_); exact zw) | (with_reducible first | refine splitT ?_ | refine splitF ?_) | ((with_reducible refine splitM.mk (fun hsm => ?_) (fun hsm => ?_)) <;> (try exact zx)) | ((with_reducible refine splitB.mk (fun h => ?_) (fun h => ?_)) <;> (try simp only [zs, ne_eq] at h) <;> (try simp (disch := omega) only [w64] at h) <;> (try exact zx)) | (with_reducible intro hz; (try exact absurd hz (Nat.succ_ne_zero _)))))
                all_goals trace_state
            · (repeat' ((try (conv => whnf)); first | (with_reducible first | refine And.intro ?_ ?_ | refine WX.of ?_) | exact zc | ((with_reducible refine VC.mk ?_); exact zw) | ((with_reducible refine VC.mk ?_); exact ⟨⟨rfl, hE2⟩, hE4, hwsc, hgg.2.2.2.1, hen⟩) | ((with_reducible refine VC.mk ?_); exact ⟨smF_ok (read_f (by assumption)), hst, (by omega)⟩) | ((with_reducible refine splitE (enz_read _ _ _ _ _) (fun c h => ?_) (fun a h => ?_)) <;> (rw [h])) | ((with_reducible refine splitO (by first  |  exact okO_sb _ _  |  exact okO_mu _ _  |  exact okO_ad _ _  |  exact okO_dv _ _  |  exact okO_bind _ _ fun _ => okO_ad _ _  |  exact okO_sb _ _) (fun h => ?_) (fun a b h hs => ?_)) <;> (try rw [h]) <;> (try simp only [zv_s] at h) <;> (try dsimp only at h)) | ((with_reducible refine splitT_of ?_ ?_); (focus (rfl))) | ((with_reducible refine splitF_of ?_ ?_); (focus (rfl))) | (with_reducible first | refine splitT ?_ | refine splitF ?_) | ((with_reducible refine splitM.mk (fun hsm => ?_) (fun hsm => ?_)) <;> (try exact zx)) | ((with_reducible refine splitB.mk (fun h => ?_) (fun h => ?_)) <;> (try simp only [zs, ne_eq] at h) <;> (try simp (disch := omega) only [w64] at h) <;> (try exact zx)) | (with_reducible intro hz; (try exact absurd hz (Nat.succ_ne_zero _)))))
              · rw [h1, one_1 h]; exact ⟨rfl⟩
              · rename_i hr
                rw [h1, one_2 hr h]; exact ⟨rfl⟩
              · rename_i hr
                refine ⟨[d1, (a, b)], by simp, .inr (.inr ⟨d1, (a, b), h1, one_3 hr h, rfl⟩), ?_⟩
                (repeat' ((try (conv => whnf)); first | (with_reducible first | refine And.intro ?_ ?_ | refine WX.of ?_) | exact zc | ((with_reducible refine VC.mk ?_); exact zw) | (with_reducible first | refine splitT ?_ | refine splitF ?_) | ((with_reducible refine splitM.mk (fun hsm => ?_) (fun hsm => ?_)) <;> (try exact zx)) | ((with_reducible refine splitB.mk (fun h => ?_) (fun h => ?_)) <;> (try simp only [zs, ne_eq] at h) <;> (try simp (disch := omega) only [w64] at h) <;> (try exact zx)) | (with_reducible intro hz; (try exact absurd hz (Nat.succ_ne_zero _)))))
                all_goals trace_state
            · rw [h1, h2]
              (repeat' ((try (conv => whnf)); first | (with_reducible first | refine And.intro ?_ ?_ | refine WX.of ?_) | exact zc | ((with_reducible refine VC.mk ?_); exact zw) | ((with_reducible refine splitT_of ?_ ?_); (focus (rfl))) | ((with_reducible refine splitF_of ?_ ?_); (focus (rfl))) | (with_reducible first | refine splitT ?_ | refine splitF ?_) | ((with_reducible refine splitM.mk (fun hsm => ?_) (fun hsm => ?_)) <;> (try exact zx)) | ((with_reducible refine splitB.mk (fun h => ?_) (fun h => ?_)) <;> (try simp only [zs, ne_eq] at h) <;> (try simp (disch := omega) only [w64] at h) <;> (try exact zx)) | (with_reducible intro hz; (try exact absurd hz (Nat.succ_ne_zero _)))))
end Go.Proofs.YtbmejhabgoimeaaGreat.Eng
set_option linter.unusedVariables false
set_option linter.unusedSimpArgs false
namespace Go.Proofs.YtbmejhabgoimeaaGreat.Eng
open Go Go.RowKit
set_option maxRecDepth 100000
/-- A report: the shot, both readings, the length, the span. -/
abbrev RpT : Type := ShT × FrT × FrT × FrT × FrT × FrT
def rp0 : RpT := ((0, (0, 0), (0, 0)), (0, 0), (0, 0), (0, 0), (0, 0), (0, 0))
def taE (u : FrT) (E : List FrT) (vp : Int) (vb : Bool) (g : FrT) (T : List ThT) (c : ShT) : EX RpT := (endsE u E vp vb g T c).bind fun r => (ofO (lnT g T c r.1 r.2)).bind fun len => (match opT u E vp g T c r.1 r.2 with | some o => .ok o | none => .error 3 : EX (FrT × FrT)).bind fun o => .ok (c, r.1, r.2, len, o.1, o.2)
def tkE (ok : Bool) (u : FrT) (E : List FrT) (vp : Int) (vb : Bool) (g : FrT) (T : List ThT) (c : ShT) : EX RpT := if ok = true then taE u E vp vb g T c else .error 1
def tkV (e : EX RpT) : RpT := eV rp0 e
theorem okO_ln2 (g : FrT) (T : List ThT) (c : ShT) (f k : FrT) : OkO (lnT g T c f k) := okO_bind _ _ fun _ => okO_bk _ _ _ _
/-- How far a report comes. -/
theorem ta_c (u : FrT) (E : List FrT) (vp : Int) (vb : Bool) (g : FrT) (T : List ThT) (c : ShT) :
    (∃ k, k ≠ 0 ∧ endsE u E vp vb g T c = .error k ∧ taE u E vp vb g T c = .error k) ∨ ∃ d1 d2, endsE u E vp vb g T c = .ok (d1, d2) ∧
    ((lnT g T c d1 d2 = none ∧ taE u E vp vb g T c = .error 3) ∨ ∃ len, lnT g T c d1 d2 = some len ∧
    ((opT u E vp g T c d1 d2 = none ∧ taE u E vp vb g T c = .error 3) ∨ ∃ a b, opT u E vp g T c d1 d2 = some (a, b) ∧ taE u E vp vb g T c = .ok (c, d1, d2, len, a, b))) := by
  unfold taE
  cases h1 : endsE u E vp vb g T c with
  | error k => exact .inl ⟨k, enz_ends _ h1, rfl, rfl⟩
  | ok r =>
    obtain ⟨d1, d2⟩ := r
    refine .inr ⟨d1, d2, rfl, ?_⟩
    cases h2 : lnT g T c d1 d2 with
    | none => exact .inl ⟨rfl, by simp only [Except.bind]; rw [h2]; rfl⟩
    | some len =>
      refine .inr ⟨len, rfl, ?_⟩
      cases h3 : opT u E vp g T c d1 d2 with
      | none => exact .inl ⟨rfl, by simp only [Except.bind]; rw [h2, h3]; rfl⟩
      | some o =>
        obtain ⟨a, b⟩ := o
        exact .inr ⟨a, b, rfl, by simp only [Except.bind]; rw [h2, h3]; rfl⟩
theorem one_f {w : FrT} {E : List FrT} {vp : Int} {vb : Bool} {st x d : FrT} (h : oneE w E vp vb st x = .ok d) : fOk d.1 d.2 = true := by
  unfold oneE at h
  cases h1 : readE w E vp vb x with
  | error c => rw [h1] at h; cases h
  | ok a =>
    rw [h1] at h
    simp only [Except.bind] at h
    cases h2 : dvO a st with
    | none => rw [h2] at h; cases h
    | some v => rw [h2] at h; cases h; exact dv_f h2
theorem ends_f {u : FrT} {E : List FrT} {vp : Int} {vb : Bool} {g : FrT} {T : List ThT} {c : ShT} {d1 d2 : FrT} (h : endsE u E vp vb g T c = .ok (d1, d2)) : fOk d1.1 d1.2 = true ∧ fOk d2.1 d2.2 = true := by
  rcases ends_c u E vp vb g T c with ⟨_, hE⟩ | ⟨e, _, hcc⟩
  · rw [hE] at h; cases h
  · rcases hcc with ⟨_, hE⟩ | ⟨st, _, hcc⟩
    · rw [hE] at h; cases h
    · rcases hcc with ⟨_, hE⟩ | ⟨y, _, hcc⟩
      · rw [hE] at h; cases h
      · rcases hcc with ⟨k, _, _, hE⟩ | ⟨w, E', _, hE⟩
        · rw [hE] at h; cases h
        · rw [hE] at h
          cases h1 : oneE w E' vp vb st c.2.2 with
          | error c => rw [h1] at h; cases h
          | ok a =>
            rw [h1] at h
            simp only [Except.bind] at h
            cases h2 : oneE w E' vp vb st e with
            | error c => rw [h2] at h; cases h
            | ok b => rw [h2] at h; cases h; exact ⟨one_f h1, one_f h2⟩
/-- What the calls answer, known beforehand. -/
def s_rd1 (d1 d2 : FrT) : Spec := fun args S => match args, S with
  | [.agg [.int .i64 up, .int .i64 uq, .sl 0 s n x, .int .i64 vp, .bool vb, .int .i64 gp, .int .i64 gq, .sl 1 t m y], .agg [.int .i64 i, .int .i64 wp, .int .i64 wq, .int .i64 sp, .int .i64 sq]], [.arr (.prod (.int .i64) (.int .i64)) l 2 wr, .arr (.prod .str (.prod (.prod (.int .i64) (.int .i64)) (.prod (.int .i64) (.int .i64)))) T 5 wT] => ⟨((s + n ≤ l.length ∧ n ≤ 1048576) ∧ (t + m ≤ T.length ∧ m ≤ 1048576) ∧ ∀ (j : Nat) (a : ThT), T[j]? = some a → a.1.length < 4611686018427387904) ∧ (bnB up uq vp gp gq (seg l s n) (seg T t m) && shB m (i, (wp, wq), sp, sq)) = true ∧ endsE (up, uq) (seg l s n) vp vb (gp, gq) (seg T t m) (i, (wp, wq), sp, sq) = .ok (d1, d2), .tup [.agg [.int .i64 d1.1, .int .i64 d1.2], .agg [.int .i64 d2.1, .int .i64 d2.2], .int .i64 0], [.arr (.prod (.int .i64) (.int .i64)) l 2 wr, .arr (.prod .str (.prod (.prod (.int .i64) (.int .i64)) (.prod (.int .i64) (.int .i64)))) T 5 wT]⟩
  | _, _ => noSpec
theorem ok_rd1 (d1 d2 : FrT) : SpecOk Tryz.prog 40 (s_rd1 d1 d2) := by
  intro args S h; unfold s_rd1 at h ⊢; (split at h <;> first | exact False.elim h | skip)
  dsimp only at h ⊢
  rename_i up uq s n x vp vb gp gq t m y i wp wq sp sq l wr T wT
  have h2 := ok_ReadEndsI [.agg [.int .i64 up, .int .i64 uq, .sl 0 s n x, .int .i64 vp, .bool vb, .int .i64 gp, .int .i64 gq, .sl 1 t m y], .agg [.int .i64 i, .int .i64 wp, .int .i64 wq, .int .i64 sp, .int .i64 sq]] [.arr (.prod (.int .i64) (.int .i64)) l 2 wr, .arr (.prod .str (.prod (.prod (.int .i64) (.int .i64)) (.prod (.int .i64) (.int .i64)))) T 5 wT] h.1
  simp only [s_rdends, h.2.1, rdE, if_true, h.2.2, e2V, eV, eC] at h2
  exact h2
def s_rd0 (k : Int) : Spec := fun args S => match args, S with
  | [.agg [.int .i64 up, .int .i64 uq, .sl 0 s n x, .int .i64 vp, .bool vb, .int .i64 gp, .int .i64 gq, .sl 1 t m y], .agg [.int .i64 i, .int .i64 wp, .int .i64 wq, .int .i64 sp, .int .i64 sq]], [.arr (.prod (.int .i64) (.int .i64)) l 2 wr, .arr (.prod .str (.prod (.prod (.int .i64) (.int .i64)) (.prod (.int .i64) (.int .i64)))) T 5 wT] => ⟨((s + n ≤ l.length ∧ n ≤ 1048576) ∧ (t + m ≤ T.length ∧ m ≤ 1048576) ∧ ∀ (j : Nat) (a : ThT), T[j]? = some a → a.1.length < 4611686018427387904) ∧ rdE (bnB up uq vp gp gq (seg l s n) (seg T t m) && shB m (i, (wp, wq), sp, sq)) (up, uq) (seg l s n) vp vb (gp, gq) (seg T t m) (i, (wp, wq), sp, sq) = .error k, .tup [.agg [.int .i64 0, .int .i64 0], .agg [.int .i64 0, .int .i64 0], .int .i64 k], [.arr (.prod (.int .i64) (.int .i64)) l 2 wr, .arr (.prod .str (.prod (.prod (.int .i64) (.int .i64)) (.prod (.int .i64) (.int .i64)))) T 5 wT]⟩
  | _, _ => noSpec
theorem ok_rd0 (k : Int) : SpecOk Tryz.prog 40 (s_rd0 k) := by
  intro args S h; unfold s_rd0 at h ⊢; (split at h <;> first | exact False.elim h | skip)
  dsimp only at h ⊢
  rename_i up uq s n x vp vb gp gq t m y i wp wq sp sq l wr T wT
  have h2 := ok_ReadEndsI [.agg [.int .i64 up, .int .i64 uq, .sl 0 s n x, .int .i64 vp, .bool vb, .int .i64 gp, .int .i64 gq, .sl 1 t m y], .agg [.int .i64 i, .int .i64 wp, .int .i64 wq, .int .i64 sp, .int .i64 sq]] [.arr (.prod (.int .i64) (.int .i64)) l 2 wr, .arr (.prod .str (.prod (.prod (.int .i64) (.int .i64)) (.prod (.int .i64) (.int .i64)))) T 5 wT] h.1
  simp only [s_rdends, h.2, e2V, eV, eC] at h2
  exact h2
def s_len1 (v : FrT) : Spec := fun args S => match args, S with
  | [.agg [.int .i64 up, .int .i64 uq, .sl 0 s n x, .int .i64 vp, .bool vb, .int .i64 gp, .int .i64 gq, .sl 1 t m y], .agg [.int .i64 i, .int .i64 wp, .int .i64 wq, .int .i64 sp, .int .i64 sq], .agg [.int .i64 fp, .int .i64 fq], .agg [.int .i64 kp, .int .i64 kq]], [.arr (.prod (.int .i64) (.int .i64)) l 2 wr, .arr (.prod .str (.prod (.prod (.int .i64) (.int .i64)) (.prod (.int .i64) (.int .i64)))) T 5 wT] => ⟨((s + n ≤ l.length ∧ n ≤ 1048576) ∧ (t + m ≤ T.length ∧ m ≤ 1048576) ∧ ∀ (j : Nat) (a : ThT), T[j]? = some a → a.1.length < 4611686018427387904) ∧ (bnB up uq vp gp gq (seg l s n) (seg T t m) && shB m (i, (wp, wq), sp, sq)) = true ∧ (fOk fp fq = true ∧ fOk kp kq = true) ∧ lnT (gp, gq) (seg T t m) (i, (wp, wq), sp, sq) (fp, fq) (kp, kq) = some v, .tup [.agg [.int .i64 v.1, .int .i64 v.2], .int .i64 0], [.arr (.prod (.int .i64) (.int .i64)) l 2 wr, .arr (.prod .str (.prod (.prod (.int .i64) (.int .i64)) (.prod (.int .i64) (.int .i64)))) T 5 wT]⟩
  | _, _ => noSpec
theorem ok_len1 (v : FrT) : SpecOk Tryz.prog 41 (s_len1 v) := by
  intro args S h; unfold s_len1 at h ⊢; (split at h <;> first | exact False.elim h | skip)
  dsimp only at h ⊢
  rename_i up uq s n x vp vb gp gq t m y i wp wq sp sq fp fq kp kq l wr T wT
  have h2 := ok_LengthFromI [.agg [.int .i64 up, .int .i64 uq, .sl 0 s n x, .int .i64 vp, .bool vb, .int .i64 gp, .int .i64 gq, .sl 1 t m y], .agg [.int .i64 i, .int .i64 wp, .int .i64 wq, .int .i64 sp, .int .i64 sq], .agg [.int .i64 fp, .int .i64 fq], .agg [.int .i64 kp, .int .i64 kq]] [.arr (.prod (.int .i64) (.int .i64)) l 2 wr, .arr (.prod .str (.prod (.prod (.int .i64) (.int .i64)) (.prod (.int .i64) (.int .i64)))) T 5 wT] h.1
  simp only [s_len, h.2.1, h.2.2.1.1, h.2.2.1.2, h.2.2.2, okC, oC, zv_s, Option.isSome_some, Bool.and_true, if_true] at h2
  exact h2
def s_len0 : Spec := fun args S => match args, S with
  | [.agg [.int .i64 up, .int .i64 uq, .sl 0 s n x, .int .i64 vp, .bool vb, .int .i64 gp, .int .i64 gq, .sl 1 t m y], .agg [.int .i64 i, .int .i64 wp, .int .i64 wq, .int .i64 sp, .int .i64 sq], .agg [.int .i64 fp, .int .i64 fq], .agg [.int .i64 kp, .int .i64 kq]], [.arr (.prod (.int .i64) (.int .i64)) l 2 wr, .arr (.prod .str (.prod (.prod (.int .i64) (.int .i64)) (.prod (.int .i64) (.int .i64)))) T 5 wT] => ⟨((s + n ≤ l.length ∧ n ≤ 1048576) ∧ (t + m ≤ T.length ∧ m ≤ 1048576) ∧ ∀ (j : Nat) (a : ThT), T[j]? = some a → a.1.length < 4611686018427387904) ∧ (bnB up uq vp gp gq (seg l s n) (seg T t m) && shB m (i, (wp, wq), sp, sq)) = true ∧ (fOk fp fq = true ∧ fOk kp kq = true) ∧ lnT (gp, gq) (seg T t m) (i, (wp, wq), sp, sq) (fp, fq) (kp, kq) = none, .tup [.agg [.int .i64 0, .int .i64 0], .int .i64 3], [.arr (.prod (.int .i64) (.int .i64)) l 2 wr, .arr (.prod .str (.prod (.prod (.int .i64) (.int .i64)) (.prod (.int .i64) (.int .i64)))) T 5 wT]⟩
  | _, _ => noSpec
theorem ok_len0 : SpecOk Tryz.prog 41 s_len0 := by
  intro args S h; unfold s_len0 at h ⊢; (split at h <;> first | exact False.elim h | skip)
  dsimp only at h ⊢
  rename_i up uq s n x vp vb gp gq t m y i wp wq sp sq fp fq kp kq l wr T wT
  have h2 := ok_LengthFromI [.agg [.int .i64 up, .int .i64 uq, .sl 0 s n x, .int .i64 vp, .bool vb, .int .i64 gp, .int .i64 gq, .sl 1 t m y], .agg [.int .i64 i, .int .i64 wp, .int .i64 wq, .int .i64 sp, .int .i64 sq], .agg [.int .i64 fp, .int .i64 fq], .agg [.int .i64 kp, .int .i64 kq]] [.arr (.prod (.int .i64) (.int .i64)) l 2 wr, .arr (.prod .str (.prod (.prod (.int .i64) (.int .i64)) (.prod (.int .i64) (.int .i64)))) T 5 wT] h.1
  simp only [s_len, h.2.1, h.2.2.1.1, h.2.2.1.2, h.2.2.2, okC, oC, Option.isSome_none, Bool.and_true, if_true, Bool.false_eq_true, if_false, show ¬ (3 : Int) = 0 by decide] at h2
  exact h2
def s_op1 (a b : FrT) : Spec := fun args S => match args, S with
  | [.agg [.int .i64 up, .int .i64 uq, .sl 0 s n x, .int .i64 vp, .bool vb, .int .i64 gp, .int .i64 gq, .sl 1 t m y], .agg [.int .i64 i, .int .i64 wp, .int .i64 wq, .int .i64 sp, .int .i64 sq], .agg [.int .i64 fp, .int .i64 fq], .agg [.int .i64 kp, .int .i64 kq]], [.arr (.prod (.int .i64) (.int .i64)) l 2 wr, .arr (.prod .str (.prod (.prod (.int .i64) (.int .i64)) (.prod (.int .i64) (.int .i64)))) T 5 wT] => ⟨((s + n ≤ l.length ∧ n ≤ 1048576) ∧ (t + m ≤ T.length ∧ m ≤ 1048576) ∧ ∀ (j : Nat) (a : ThT), T[j]? = some a → a.1.length < 4611686018427387904) ∧ (bnB up uq vp gp gq (seg l s n) (seg T t m) && shB m (i, (wp, wq), sp, sq)) = true ∧ (fOk fp fq = true ∧ fOk kp kq = true) ∧ opT (up, uq) (seg l s n) vp (gp, gq) (seg T t m) (i, (wp, wq), sp, sq) (fp, fq) (kp, kq) = some (a, b), .tup [.agg [.int .i64 a.1, .int .i64 a.2, .int .i64 b.1, .int .i64 b.2], .int .i64 0], [.arr (.prod (.int .i64) (.int .i64)) l 2 wr, .arr (.prod .str (.prod (.prod (.int .i64) (.int .i64)) (.prod (.int .i64) (.int .i64)))) T 5 wT]⟩
  | _, _ => noSpec
theorem ok_op1 (a b : FrT) : SpecOk Tryz.prog 42 (s_op1 a b) := by
  intro args S h; unfold s_op1 at h ⊢; (split at h <;> first | exact False.elim h | skip)
  dsimp only at h ⊢
  rename_i up uq s n x vp vb gp gq t m y i wp wq sp sq fp fq kp kq l wr T wT
  have h2 := ok_OpenSpanI [.agg [.int .i64 up, .int .i64 uq, .sl 0 s n x, .int .i64 vp, .bool vb, .int .i64 gp, .int .i64 gq, .sl 1 t m y], .agg [.int .i64 i, .int .i64 wp, .int .i64 wq, .int .i64 sp, .int .i64 sq], .agg [.int .i64 fp, .int .i64 fq], .agg [.int .i64 kp, .int .i64 kq]] [.arr (.prod (.int .i64) (.int .i64)) l 2 wr, .arr (.prod .str (.prod (.prod (.int .i64) (.int .i64)) (.prod (.int .i64) (.int .i64)))) T 5 wT] h.1
  simp only [s_open, h.2.1, h.2.2.1.1, h.2.2.1.2, h.2.2.2, okS, oS, z2, Option.getD_some, Option.isSome_some, Bool.and_true, if_true] at h2
  exact h2
def s_op0 : Spec := fun args S => match args, S with
  | [.agg [.int .i64 up, .int .i64 uq, .sl 0 s n x, .int .i64 vp, .bool vb, .int .i64 gp, .int .i64 gq, .sl 1 t m y], .agg [.int .i64 i, .int .i64 wp, .int .i64 wq, .int .i64 sp, .int .i64 sq], .agg [.int .i64 fp, .int .i64 fq], .agg [.int .i64 kp, .int .i64 kq]], [.arr (.prod (.int .i64) (.int .i64)) l 2 wr, .arr (.prod .str (.prod (.prod (.int .i64) (.int .i64)) (.prod (.int .i64) (.int .i64)))) T 5 wT] => ⟨((s + n ≤ l.length ∧ n ≤ 1048576) ∧ (t + m ≤ T.length ∧ m ≤ 1048576) ∧ ∀ (j : Nat) (a : ThT), T[j]? = some a → a.1.length < 4611686018427387904) ∧ (bnB up uq vp gp gq (seg l s n) (seg T t m) && shB m (i, (wp, wq), sp, sq)) = true ∧ (fOk fp fq = true ∧ fOk kp kq = true) ∧ opT (up, uq) (seg l s n) vp (gp, gq) (seg T t m) (i, (wp, wq), sp, sq) (fp, fq) (kp, kq) = none, .tup [.agg [.int .i64 0, .int .i64 0, .int .i64 0, .int .i64 0], .int .i64 3], [.arr (.prod (.int .i64) (.int .i64)) l 2 wr, .arr (.prod .str (.prod (.prod (.int .i64) (.int .i64)) (.prod (.int .i64) (.int .i64)))) T 5 wT]⟩
  | _, _ => noSpec
theorem ok_op0 : SpecOk Tryz.prog 42 s_op0 := by
  intro args S h; unfold s_op0 at h ⊢; (split at h <;> first | exact False.elim h | skip)
  dsimp only at h ⊢
  rename_i up uq s n x vp vb gp gq t m y i wp wq sp sq fp fq kp kq l wr T wT
  have h2 := ok_OpenSpanI [.agg [.int .i64 up, .int .i64 uq, .sl 0 s n x, .int .i64 vp, .bool vb, .int .i64 gp, .int .i64 gq, .sl 1 t m y], .agg [.int .i64 i, .int .i64 wp, .int .i64 wq, .int .i64 sp, .int .i64 sq], .agg [.int .i64 fp, .int .i64 fq], .agg [.int .i64 kp, .int .i64 kq]] [.arr (.prod (.int .i64) (.int .i64)) l 2 wr, .arr (.prod .str (.prod (.prod (.int .i64) (.int .i64)) (.prod (.int .i64) (.int .i64)))) T 5 wT] h.1
  simp only [s_open, h.2.1, h.2.2.1.1, h.2.2.1.2, h.2.2.2, okS, oS, Option.isSome_none, Bool.and_true, if_true, Bool.false_eq_true, if_false, show ¬ (3 : Int) = 0 by decide] at h2
  exact h2
def s_take : Spec := fun args S => match args, S with
  | [.agg [.int .i64 up, .int .i64 uq, .sl 0 s n x, .int .i64 vp, .bool vb, .int .i64 gp, .int .i64 gq, .sl 1 t m y], .agg [.int .i64 i, .int .i64 wp, .int .i64 wq, .int .i64 sp, .int .i64 sq]], [.arr (.prod (.int .i64) (.int .i64)) l 2 wr, .arr (.prod .str (.prod (.prod (.int .i64) (.int .i64)) (.prod (.int .i64) (.int .i64)))) T 5 wT] => ⟨(s + n ≤ l.length ∧ n ≤ 1048576) ∧ (t + m ≤ T.length ∧ m ≤ 1048576) ∧ ∀ (j : Nat) (a : ThT), T[j]? = some a → a.1.length < 4611686018427387904, .tup [.agg [.int .i64 (tkV (tkE (bnB up uq vp gp gq (seg l s n) (seg T t m) && shB m (i, (wp, wq), sp, sq)) (up, uq) (seg l s n) vp vb (gp, gq) (seg T t m) (i, (wp, wq), sp, sq))).1.1, .int .i64 (tkV (tkE (bnB up uq vp gp gq (seg l s n) (seg T t m) && shB m (i, (wp, wq), sp, sq)) (up, uq) (seg l s n) vp vb (gp, gq) (seg T t m) (i, (wp, wq), sp, sq))).1.2.1.1, .int .i64 (tkV (tkE (bnB up uq vp gp gq (seg l s n) (seg T t m) && shB m (i, (wp, wq), sp, sq)) (up, uq) (seg l s n) vp vb (gp, gq) (seg T t m) (i, (wp, wq), sp, sq))).1.2.1.2, .int .i64 (tkV (tkE (bnB up uq vp gp gq (seg l s n) (seg T t m) && shB m (i, (wp, wq), sp, sq)) (up, uq) (seg l s n) vp vb (gp, gq) (seg T t m) (i, (wp, wq), sp, sq))).1.2.2.1, .int .i64 (tkV (tkE (bnB up uq vp gp gq (seg l s n) (seg T t m) && shB m (i, (wp, wq), sp, sq)) (up, uq) (seg l s n) vp vb (gp, gq) (seg T t m) (i, (wp, wq), sp, sq))).1.2.2.2, .int .i64 (tkV (tkE (bnB up uq vp gp gq (seg l s n) (seg T t m) && shB m (i, (wp, wq), sp, sq)) (up, uq) (seg l s n) vp vb (gp, gq) (seg T t m) (i, (wp, wq), sp, sq))).2.1.1, .int .i64 (tkV (tkE (bnB up uq vp gp gq (seg l s n) (seg T t m) && shB m (i, (wp, wq), sp, sq)) (up, uq) (seg l s n) vp vb (gp, gq) (seg T t m) (i, (wp, wq), sp, sq))).2.1.2, .int .i64 (tkV (tkE (bnB up uq vp gp gq (seg l s n) (seg T t m) && shB m (i, (wp, wq), sp, sq)) (up, uq) (seg l s n) vp vb (gp, gq) (seg T t m) (i, (wp, wq), sp, sq))).2.2.1.1, .int .i64 (tkV (tkE (bnB up uq vp gp gq (seg l s n) (seg T t m) && shB m (i, (wp, wq), sp, sq)) (up, uq) (seg l s n) vp vb (gp, gq) (seg T t m) (i, (wp, wq), sp, sq))).2.2.1.2, .int .i64 (tkV (tkE (bnB up uq vp gp gq (seg l s n) (seg T t m) && shB m (i, (wp, wq), sp, sq)) (up, uq) (seg l s n) vp vb (gp, gq) (seg T t m) (i, (wp, wq), sp, sq))).2.2.2.1.1, .int .i64 (tkV (tkE (bnB up uq vp gp gq (seg l s n) (seg T t m) && shB m (i, (wp, wq), sp, sq)) (up, uq) (seg l s n) vp vb (gp, gq) (seg T t m) (i, (wp, wq), sp, sq))).2.2.2.1.2, .int .i64 (tkV (tkE (bnB up uq vp gp gq (seg l s n) (seg T t m) && shB m (i, (wp, wq), sp, sq)) (up, uq) (seg l s n) vp vb (gp, gq) (seg T t m) (i, (wp, wq), sp, sq))).2.2.2.2.1.1, .int .i64 (tkV (tkE (bnB up uq vp gp gq (seg l s n) (seg T t m) && shB m (i, (wp, wq), sp, sq)) (up, uq) (seg l s n) vp vb (gp, gq) (seg T t m) (i, (wp, wq), sp, sq))).2.2.2.2.1.2, .int .i64 (tkV (tkE (bnB up uq vp gp gq (seg l s n) (seg T t m) && shB m (i, (wp, wq), sp, sq)) (up, uq) (seg l s n) vp vb (gp, gq) (seg T t m) (i, (wp, wq), sp, sq))).2.2.2.2.2.1, .int .i64 (tkV (tkE (bnB up uq vp gp gq (seg l s n) (seg T t m) && shB m (i, (wp, wq), sp, sq)) (up, uq) (seg l s n) vp vb (gp, gq) (seg T t m) (i, (wp, wq), sp, sq))).2.2.2.2.2.2], .int .i64 (eC (tkE (bnB up uq vp gp gq (seg l s n) (seg T t m) && shB m (i, (wp, wq), sp, sq)) (up, uq) (seg l s n) vp vb (gp, gq) (seg T t m) (i, (wp, wq), sp, sq)))], [.arr (.prod (.int .i64) (.int .i64)) l 2 wr, .arr (.prod .str (.prod (.prod (.int .i64) (.int .i64)) (.prod (.int .i64) (.int .i64)))) T 5 wT]⟩
  | _, _ => noSpec
attribute [local irreducible] endsE lnT opT bnB shB taE in
set_option maxHeartbeats 3200000 in
theorem ok_TakeReportI : SpecOk Tryz.prog 13 s_take := by
  intro args S h; unfold s_take at h ⊢; (split at h <;> first | exact False.elim h | skip)
  dsimp only at h ⊢
  rename_i up uq s n x vp vb gp gq t m y i wp wq sp sq l wr T wT
  have hq := h
  cases hok : (bnB up uq vp gp gq (seg l s n) (seg T t m) && shB m (i, (wp, wq), sp, sq)) with
  | false =>
    have hR : tkE false (up, uq) (seg l s n) vp vb (gp, gq) (seg T t m) (i, (wp, wq), sp, sq) = .error 1 := rfl
    rw [hR]
    have hr : rdE (bnB up uq vp gp gq (seg l s n) (seg T t m) && shB m (i, (wp, wq), sp, sq)) (up, uq) (seg l s n) vp vb (gp, gq) (seg T t m) (i, (wp, wq), sp, sq) = .error 1 := by rw [hok]; rfl
    refine funW tabOk (E := [(40, (s_rd0 1))]) ⟨(ok_rd0 1), trivial⟩ [] (k := 2) (fn := Tryz.f13) rfl rfl rfl rfl rfl rfl ?_
    (repeat' ((try (conv => whnf)); first | (with_reducible first | refine And.intro ?_ ?_ | refine WX.of ?_) | exact zc | ((with_reducible refine VC.mk ?_); exact zw) | ((with_reducible refine VC.mk ?_); exact ⟨hq, hr⟩) | (with_reducible first | refine splitT ?_ | refine splitF ?_) | ((with_reducible refine splitM.mk (fun hsm => ?_) (fun hsm => ?_)) <;> (try exact zx)) | ((with_reducible refine splitB.mk (fun h => ?_) (fun h => ?_)) <;> (try simp only [zs, ne_eq] at h) <;> (try simp (disch := omega) only [w64] at h) <;> (try exact zx)) | (with_reducible intro hz; (try exact absurd hz (Nat.succ_ne_zero _)))))
  | true =>
    have hR : tkE true (up, uq) (seg l s n) vp vb (gp, gq) (seg T t m) (i, (wp, wq), sp, sq) = taE (up, uq) (seg l s n) vp vb (gp, gq) (seg T t m) (i, (wp, wq), sp, sq) := rfl
    rw [hR]
    rcases ta_c (up, uq) (seg l s n) vp vb (gp, gq) (seg T t m) (i, (wp, wq), sp, sq) with ⟨k, hk, hr, hE⟩ | ⟨d1, d2, hr, hcc⟩
    · rw [hE]
      have hr : rdE (bnB up uq vp gp gq (seg l s n) (seg T t m) && shB m (i, (wp, wq), sp, sq)) (up, uq) (seg l s n) vp vb (gp, gq) (seg T t m) (i, (wp, wq), sp, sq) = .error k := by rw [hok]; exact hr
      have hcn : decide (k ≠ 0) = true := decide_eq_true hk
      refine funW tabOk (E := [(40, (s_rd0 k))]) ⟨(ok_rd0 k), trivial⟩ [] (k := 2) (fn := Tryz.f13) rfl rfl rfl rfl rfl rfl ?_
      (repeat' ((try (conv => whnf)); first | (with_reducible first | refine And.intro ?_ ?_ | refine WX.of ?_) | exact zc | ((with_reducible refine VC.mk ?_); exact zw) | ((with_reducible refine splitT_of ?_ ?_); (focus (simp only [hcn, Bool.not_true, Bool.not_false, decide_true, decide_false]; done))) | ((with_reducible refine splitF_of ?_ ?_); (focus (simp only [hcn, Bool.not_true, Bool.not_false, decide_true, decide_false]; done))) | ((with_reducible refine VC.mk ?_); exact ⟨hq, hr⟩) | (with_reducible first | refine splitT ?_ | refine splitF ?_) | ((with_reducible refine splitM.mk (fun hsm => ?_) (fun hsm => ?_)) <;> (try exact zx)) | ((with_reducible refine splitB.mk (fun h => ?_) (fun h => ?_)) <;> (try simp only [zs, ne_eq] at h) <;> (try simp (disch := omega) only [w64] at h) <;> (try exact zx)) | (with_reducible intro hz; (try exact absurd hz (Nat.succ_ne_zero _)))))
    · have hf := ends_f hr
      rcases hcc with ⟨hl, hE⟩ | ⟨len, hl, hcc⟩
      · rw [hE]
        refine funW tabOk (E := [(40, (s_rd1 d1 d2)), (41, s_len0)]) ⟨(ok_rd1 d1 d2), ok_len0, trivial⟩ [] (k := 2) (fn := Tryz.f13) rfl rfl rfl rfl rfl rfl ?_
        (repeat' ((try (conv => whnf)); first | (with_reducible first | refine And.intro ?_ ?_ | refine WX.of ?_) | exact zc | ((with_reducible refine VC.mk ?_); exact zw) | ((with_reducible refine VC.mk ?_); exact ⟨hq, hok, hr⟩) | ((with_reducible refine VC.mk ?_); exact ⟨hq, hok, hf, hl⟩) | (with_reducible first | refine splitT ?_ | refine splitF ?_) | ((with_reducible refine splitM.mk (fun hsm => ?_) (fun hsm => ?_)) <;> (try exact zx)) | ((with_reducible refine splitB.mk (fun h => ?_) (fun h => ?_)) <;> (try simp only [zs, ne_eq] at h) <;> (try simp (disch := omega) only [w64] at h) <;> (try exact zx)) | (with_reducible intro hz; (try exact absurd hz (Nat.succ_ne_zero _)))))
      · rcases hcc with ⟨ho, hE⟩ | ⟨a, b, ho, hE⟩
        · rw [hE]
          refine funW tabOk (E := [(40, (s_rd1 d1 d2)), (41, (s_len1 len)), (42, s_op0)]) ⟨(ok_rd1 d1 d2), (ok_len1 len), ok_op0, trivial⟩ [] (k := 2) (fn := Tryz.f13) rfl rfl rfl rfl rfl rfl ?_
          (repeat' ((try (conv => whnf)); first | (with_reducible first | refine And.intro ?_ ?_ | refine WX.of ?_) | exact zc | ((with_reducible refine VC.mk ?_); exact zw) | ((with_reducible refine VC.mk ?_); exact ⟨hq, hok, hr⟩) | ((with_reducible refine VC.mk ?_); exact ⟨hq, hok, hf, hl⟩) | ((with_reducible refine VC.mk ?_); exact ⟨hq, hok, hf, ho⟩) | (with_reducible first | refine splitT ?_ | refine splitF ?_) | ((with_reducible refine splitM.mk (fun hsm => ?_) (fun hsm => ?_)) <;> (try exact zx)) | ((with_reducible refine splitB.mk (fun h => ?_) (fun h => ?_)) <;> (try simp only [zs, ne_eq] at h) <;> (try simp (disch := omega) only [w64] at h) <;> (try exact zx)) | (with_reducible intro hz; (try exact absurd hz (Nat.succ_ne_zero _)))))
        · rw [hE]
          refine funW tabOk (E := [(40, (s_rd1 d1 d2)), (41, (s_len1 len)), (42, (s_op1 a b))]) ⟨(ok_rd1 d1 d2), (ok_len1 len), (ok_op1 a b), trivial⟩ [] (k := 2) (fn := Tryz.f13) rfl rfl rfl rfl rfl rfl ?_
          (repeat' ((try (conv => whnf)); first | (with_reducible first | refine And.intro ?_ ?_ | refine WX.of ?_) | exact zc | ((with_reducible refine VC.mk ?_); exact zw) | ((with_reducible refine VC.mk ?_); exact ⟨hq, hok, hr⟩) | ((with_reducible refine VC.mk ?_); exact ⟨hq, hok, hf, hl⟩) | ((with_reducible refine VC.mk ?_); exact ⟨hq, hok, hf, ho⟩) | (with_reducible first | refine splitT ?_ | refine splitF ?_) | ((with_reducible refine splitM.mk (fun hsm => ?_) (fun hsm => ?_)) <;> (try exact zx)) | ((with_reducible refine splitB.mk (fun h => ?_) (fun h => ?_)) <;> (try simp only [zs, ne_eq] at h) <;> (try simp (disch := omega) only [w64] at h) <;> (try exact zx)) | (with_reducible intro hz; (try exact absurd hz (Nat.succ_ne_zero _)))))
theorem splitOS {o : Option (FrT × FrT)} {A B : Prop} (h1 : o = none → A) (h2 : ∀ a b, o = some (a, b) → B) : splitB (decide (oS o ≠ 0)) A B := by
  cases o with
  | none => exact ⟨fun _ => h1 rfl, fun e => by simp [oS] at e⟩
  | some v => exact ⟨fun e => by simp [oS] at e, fun _ => h2 v.1 v.2 rfl⟩
def s_l07Read1 (d1 d2 : FrT) : Spec := fun args S => match args, S with
  | [.ptr 0 0 0, .ptr 1 0 0], [.box [.int .i64 up, .int .i64 uq, .sl 2 s n x, .int .i64 vp, .bool vb, .int .i64 gp, .int .i64 gq, .sl 3 t m y] true false, .arr (.prod (.int .i64) (.prod (.prod (.int .i64) (.int .i64)) (.prod (.int .i64) (.int .i64)))) [c] 0 true, .arr (.prod (.int .i64) (.int .i64)) l 2 wr, .arr (.prod .str (.prod (.prod (.int .i64) (.int .i64)) (.prod (.int .i64) (.int .i64)))) T 5 wT] => ⟨(((s + n ≤ l.length ∧ n ≤ 1048576) ∧ t + m ≤ T.length ∧ m ≤ 1048576) ∧ bnB up uq vp gp gq (seg l s n) (seg T t m) = true ∧ shB m c = true) ∧ endsE (up, uq) (seg l s n) vp vb (gp, gq) (seg T t m) c = .ok (d1, d2), .tup [.agg [.int .i64 d1.1, .int .i64 d1.2], .agg [.int .i64 d2.1, .int .i64 d2.2], .int .i64 0], [.box [.int .i64 up, .int .i64 uq, .sl 2 s n x, .int .i64 vp, .bool vb, .int .i64 gp, .int .i64 gq, .sl 3 t m y] true false, .arr (.prod (.int .i64) (.prod (.prod (.int .i64) (.int .i64)) (.prod (.int .i64) (.int .i64)))) [c] 0 true, .arr (.prod (.int .i64) (.int .i64)) l 2 wr, .arr (.prod .str (.prod (.prod (.int .i64) (.int .i64)) (.prod (.int .i64) (.int .i64)))) T 5 wT]⟩
  | _, _ => noSpec
theorem ok_l07Read1 (d1 d2 : FrT) : SpecOk Tryz.prog 63 (s_l07Read1 d1 d2) := by
  intro args S h; unfold s_l07Read1 at h ⊢; (split at h <;> first | exact False.elim h | skip)
  dsimp only at h ⊢
  rename_i up uq s n x vp vb gp gq t m y c l wr T wT
  have h2 := ok_l07Read [.ptr 0 0 0, .ptr 1 0 0] [.box [.int .i64 up, .int .i64 uq, .sl 2 s n x, .int .i64 vp, .bool vb, .int .i64 gp, .int .i64 gq, .sl 3 t m y] true false, .arr (.prod (.int .i64) (.prod (.prod (.int .i64) (.int .i64)) (.prod (.int .i64) (.int .i64)))) [c] 0 true, .arr (.prod (.int .i64) (.int .i64)) l 2 wr, .arr (.prod .str (.prod (.prod (.int .i64) (.int .i64)) (.prod (.int .i64) (.int .i64)))) T 5 wT] h.1
  simp only [s_l07Read, h.2, e2V, eV, eC] at h2
  exact h2
def s_l07Read0 (k : Int) : Spec := fun args S => match args, S with
  | [.ptr 0 0 0, .ptr 1 0 0], [.box [.int .i64 up, .int .i64 uq, .sl 2 s n x, .int .i64 vp, .bool vb, .int .i64 gp, .int .i64 gq, .sl 3 t m y] true false, .arr (.prod (.int .i64) (.prod (.prod (.int .i64) (.int .i64)) (.prod (.int .i64) (.int .i64)))) [c] 0 true, .arr (.prod (.int .i64) (.int .i64)) l 2 wr, .arr (.prod .str (.prod (.prod (.int .i64) (.int .i64)) (.prod (.int .i64) (.int .i64)))) T 5 wT] => ⟨(((s + n ≤ l.length ∧ n ≤ 1048576) ∧ t + m ≤ T.length ∧ m ≤ 1048576) ∧ bnB up uq vp gp gq (seg l s n) (seg T t m) = true ∧ shB m c = true) ∧ endsE (up, uq) (seg l s n) vp vb (gp, gq) (seg T t m) c = .error k, .tup [.agg [.int .i64 0, .int .i64 0], .agg [.int .i64 0, .int .i64 0], .int .i64 k], [.box [.int .i64 up, .int .i64 uq, .sl 2 s n x, .int .i64 vp, .bool vb, .int .i64 gp, .int .i64 gq, .sl 3 t m y] true false, .arr (.prod (.int .i64) (.prod (.prod (.int .i64) (.int .i64)) (.prod (.int .i64) (.int .i64)))) [c] 0 true, .arr (.prod (.int .i64) (.int .i64)) l 2 wr, .arr (.prod .str (.prod (.prod (.int .i64) (.int .i64)) (.prod (.int .i64) (.int .i64)))) T 5 wT]⟩
  | _, _ => noSpec
theorem ok_l07Read0 (k : Int) : SpecOk Tryz.prog 63 (s_l07Read0 k) := by
  intro args S h; unfold s_l07Read0 at h ⊢; (split at h <;> first | exact False.elim h | skip)
  dsimp only at h ⊢
  rename_i up uq s n x vp vb gp gq t m y c l wr T wT
  have h2 := ok_l07Read [.ptr 0 0 0, .ptr 1 0 0] [.box [.int .i64 up, .int .i64 uq, .sl 2 s n x, .int .i64 vp, .bool vb, .int .i64 gp, .int .i64 gq, .sl 3 t m y] true false, .arr (.prod (.int .i64) (.prod (.prod (.int .i64) (.int .i64)) (.prod (.int .i64) (.int .i64)))) [c] 0 true, .arr (.prod (.int .i64) (.int .i64)) l 2 wr, .arr (.prod .str (.prod (.prod (.int .i64) (.int .i64)) (.prod (.int .i64) (.int .i64)))) T 5 wT] h.1
  simp only [s_l07Read, h.2, e2V, eV, eC] at h2
  exact h2
def s_l07Take : Spec := fun args S => match args, S with
  | [.ptr 0 0 0, .ptr 1 0 0], [.box [.int .i64 up, .int .i64 uq, .sl 2 s n x, .int .i64 vp, .bool vb, .int .i64 gp, .int .i64 gq, .sl 3 t m y] true false, .arr (.prod (.int .i64) (.prod (.prod (.int .i64) (.int .i64)) (.prod (.int .i64) (.int .i64)))) [c] 0 true, .arr (.prod (.int .i64) (.int .i64)) l 2 wr, .arr (.prod .str (.prod (.prod (.int .i64) (.int .i64)) (.prod (.int .i64) (.int .i64)))) T 5 wT] => ⟨((s + n ≤ l.length ∧ n ≤ 1048576) ∧ t + m ≤ T.length ∧ m ≤ 1048576) ∧ bnB up uq vp gp gq (seg l s n) (seg T t m) = true ∧ shB m c = true, .tup [.agg [.int .i64 (tkV (taE (up, uq) (seg l s n) vp vb (gp, gq) (seg T t m) c)).1.1, .int .i64 (tkV (taE (up, uq) (seg l s n) vp vb (gp, gq) (seg T t m) c)).1.2.1.1, .int .i64 (tkV (taE (up, uq) (seg l s n) vp vb (gp, gq) (seg T t m) c)).1.2.1.2, .int .i64 (tkV (taE (up, uq) (seg l s n) vp vb (gp, gq) (seg T t m) c)).1.2.2.1, .int .i64 (tkV (taE (up, uq) (seg l s n) vp vb (gp, gq) (seg T t m) c)).1.2.2.2, .int .i64 (tkV (taE (up, uq) (seg l s n) vp vb (gp, gq) (seg T t m) c)).2.1.1, .int .i64 (tkV (taE (up, uq) (seg l s n) vp vb (gp, gq) (seg T t m) c)).2.1.2, .int .i64 (tkV (taE (up, uq) (seg l s n) vp vb (gp, gq) (seg T t m) c)).2.2.1.1, .int .i64 (tkV (taE (up, uq) (seg l s n) vp vb (gp, gq) (seg T t m) c)).2.2.1.2, .int .i64 (tkV (taE (up, uq) (seg l s n) vp vb (gp, gq) (seg T t m) c)).2.2.2.1.1, .int .i64 (tkV (taE (up, uq) (seg l s n) vp vb (gp, gq) (seg T t m) c)).2.2.2.1.2, .int .i64 (tkV (taE (up, uq) (seg l s n) vp vb (gp, gq) (seg T t m) c)).2.2.2.2.1.1, .int .i64 (tkV (taE (up, uq) (seg l s n) vp vb (gp, gq) (seg T t m) c)).2.2.2.2.1.2, .int .i64 (tkV (taE (up, uq) (seg l s n) vp vb (gp, gq) (seg T t m) c)).2.2.2.2.2.1, .int .i64 (tkV (taE (up, uq) (seg l s n) vp vb (gp, gq) (seg T t m) c)).2.2.2.2.2.2], .int .i64 (eC (taE (up, uq) (seg l s n) vp vb (gp, gq) (seg T t m) c))], [.box [.int .i64 up, .int .i64 uq, .sl 2 s n x, .int .i64 vp, .bool vb, .int .i64 gp, .int .i64 gq, .sl 3 t m y] true false, .arr (.prod (.int .i64) (.prod (.prod (.int .i64) (.int .i64)) (.prod (.int .i64) (.int .i64)))) [c] 0 true, .arr (.prod (.int .i64) (.int .i64)) l 2 wr, .arr (.prod .str (.prod (.prod (.int .i64) (.int .i64)) (.prod (.int .i64) (.int .i64)))) T 5 wT]⟩
  | _, _ => noSpec
attribute [local irreducible] endsE lnT opT bnB shB taE in
set_option maxHeartbeats 3200000 in
theorem ok_l07Take : SpecOk Tryz.prog 35 s_l07Take := by
  intro args S h; unfold s_l07Take at h ⊢; (split at h <;> first | exact False.elim h | skip)
  dsimp only at h ⊢
  rename_i up uq s n x vp vb gp gq t m y c l wr T wT
  have hq := h
  rcases ta_c (up, uq) (seg l s n) vp vb (gp, gq) (seg T t m) c with ⟨k, hk, hr, hE⟩ | ⟨d1, d2, hr, hcc⟩
  · rw [hE]
    have hcn : decide (k ≠ 0) = true := decide_eq_true hk
    refine funW tabOk (E := [(63, (s_l07Read0 k))]) ⟨(ok_l07Read0 k), trivial⟩ [] (k := 4) (fn := Tryz.f35) rfl rfl rfl rfl rfl rfl ?_
    (repeat' ((try (conv => whnf)); first | (with_reducible first | refine And.intro ?_ ?_ | refine WX.of ?_) | exact zc | ((with_reducible refine VC.mk ?_); exact zw) | ((with_reducible refine splitT_of ?_ ?_); (focus (simp only [hcn, Bool.not_true, Bool.not_false, decide_true, decide_false]; done))) | ((with_reducible refine splitF_of ?_ ?_); (focus (simp only [hcn, Bool.not_true, Bool.not_false, decide_true, decide_false]; done))) | ((with_reducible refine VC.mk ?_); exact ⟨hq, hr⟩) | (with_reducible first | refine splitT ?_ | refine splitF ?_) | ((with_reducible refine splitM.mk (fun hsm => ?_) (fun hsm => ?_)) <;> (try exact zx)) | ((with_reducible refine splitB.mk (fun h => ?_) (fun h => ?_)) <;> (try simp only [zs, ne_eq] at h) <;> (try simp (disch := omega) only [w64] at h) <;> (try exact zx)) | (with_reducible intro hz; (try exact absurd hz (Nat.succ_ne_zero _)))))
  · have hf := ends_f hr
    have hf1 := smF_ok hf.1
    have hf2 := smF_ok hf.2
    refine funW tabOk (E := [(63, (s_l07Read1 d1 d2)), (64, s_l07Length), (65, s_l07Open)]) ⟨(ok_l07Read1 d1 d2), ok_l07Length, ok_l07Open, trivial⟩ [] (k := 4) (fn := Tryz.f35) rfl rfl rfl rfl rfl rfl ?_
    (repeat' ((try (conv => whnf)); first | (with_reducible first | refine And.intro ?_ ?_ | refine WX.of ?_) | exact zc | ((with_reducible refine VC.mk ?_); exact zw) | ((with_reducible refine VC.mk ?_); exact ⟨hq, hr⟩) | ((with_reducible refine VC.mk ?_); exact ⟨hq.1.2, hq.2.1, hq.2.2, hf1, hf2⟩) | ((with_reducible refine VC.mk ?_); exact ⟨hq.1, hq.2.1, hq.2.2, hf1, hf2⟩) | ((with_reducible refine splitO (by first  |  exact okO_sb _ _  |  exact okO_mu _ _  |  exact okO_ad _ _  |  exact okO_dv _ _  |  exact okO_bind _ _ fun _ => okO_ad _ _  |  exact okO_ln2 _ _ _ _ _) (fun h => ?_) (fun a b h hs => ?_)) <;> (try rw [h]) <;> (try simp only [zv_s] at h) <;> (try dsimp only at h)) | ((with_reducible refine splitOS (fun h => ?_) (fun a b h => ?_)) <;> (try rw [h])) | (with_reducible first | refine splitT ?_ | refine splitF ?_) | ((with_reducible refine splitM.mk (fun hsm => ?_) (fun hsm => ?_)) <;> (try exact zx)) | ((with_reducible refine splitB.mk (fun h => ?_) (fun h => ?_)) <;> (try simp only [zs, ne_eq] at h) <;> (try simp (disch := omega) only [w64] at h) <;> (try exact zx)) | (with_reducible intro hz; (try exact absurd hz (Nat.succ_ne_zero _)))))
    all_goals refine ⟨?_⟩
    · rcases hcc with ⟨_, hE⟩ | ⟨len, hl, _⟩
      · rw [hE]; rfl
      · rw [hl] at h; cases h
    · rename_i hl
      rcases hcc with ⟨hl2, _⟩ | ⟨len, hl2, hcc⟩
      · rw [hl2] at hl; cases hl
      · rcases hcc with ⟨_, hE⟩ | ⟨a, b, ho, _⟩
        · rw [hE]; rfl
        · rw [ho] at h; cases h
    · rename_i hl
      rcases hcc with ⟨hl2, _⟩ | ⟨len, hl2, hcc⟩
      · rw [hl2] at hl; cases hl
      · rcases hcc with ⟨ho, _⟩ | ⟨a, b, ho, hE⟩
        · rw [ho] at h; cases h
        · rw [hl2] at hl; cases hl
          rw [ho] at h; cases h
          rw [hE]; rfl
theorem ok_TakeReportS : SpecOk Tryz.prog 10 s_take := by
  intro args S h; unfold s_take at h ⊢; (split at h <;> first | exact False.elim h | skip)
  dsimp only at h ⊢
  rename_i up uq s n x vp vb gp gq t m y i wp wq sp sq l wr T wT
  have hq := h
  cases hok : (bnB up uq vp gp gq (seg l s n) (seg T t m) && shB m (i, (wp, wq), sp, sq)) with
  | false =>
    refine funW tabOk (E := [(34, s_vShot)]) ⟨ok_ValidShotS, trivial⟩ [] (k := 2) (fn := Tryz.f10) rfl rfl rfl rfl rfl rfl ?_
    (repeat' ((try (conv => whnf)); first | (with_reducible first | refine And.intro ?_ ?_ | refine WX.of ?_) | exact zc | ((with_reducible refine VC.mk ?_); exact zw) | ((with_reducible refine VC.mk ?_); exact hq) | ((with_reducible refine splitT_of ?_ ?_); (focus (simp only [hok, Bool.not_true, Bool.not_false, decide_true, decide_false]; done))) | ((with_reducible refine splitF_of ?_ ?_); (focus (simp only [hok, Bool.not_true, Bool.not_false, decide_true, decide_false]; done))) | (with_reducible first | refine splitT ?_ | refine splitF ?_) | ((with_reducible refine splitM.mk (fun hsm => ?_) (fun hsm => ?_)) <;> (try exact zx)) | ((with_reducible refine splitB.mk (fun h => ?_) (fun h => ?_)) <;> (try simp only [zs, ne_eq] at h) <;> (try simp (disch := omega) only [w64] at h) <;> (try exact zx)) | (with_reducible intro hz; (try exact absurd hz (Nat.succ_ne_zero _)))))
  | true =>
    have hk2 := hok
    rw [Bool.and_eq_true] at hk2
    refine funW tabOk (E := [(34, s_vShot), (35, s_l07Take)]) ⟨ok_ValidShotS, ok_l07Take, trivial⟩ [] (k := 2) (fn := Tryz.f10) rfl rfl rfl rfl rfl rfl ?_
    (repeat' ((try (conv => whnf)); first | (with_reducible first | refine And.intro ?_ ?_ | refine WX.of ?_) | exact zc | ((with_reducible refine VC.mk ?_); exact zw) | ((with_reducible refine VC.mk ?_); exact hq) | ((with_reducible refine VC.mk ?_); exact ⟨⟨hq.1, hq.2.1⟩, hk2.1, hk2.2⟩) | ((with_reducible refine splitT_of ?_ ?_); (focus (simp only [hok, Bool.not_true, Bool.not_false, decide_true, decide_false]; done))) | ((with_reducible refine splitF_of ?_ ?_); (focus (simp only [hok, Bool.not_true, Bool.not_false, decide_true, decide_false]; done))) | (with_reducible first | refine splitT ?_ | refine splitF ?_) | ((with_reducible refine splitM.mk (fun hsm => ?_) (fun hsm => ?_)) <;> (try exact zx)) | ((with_reducible refine splitB.mk (fun h => ?_) (fun h => ?_)) <;> (try simp only [zs, ne_eq] at h) <;> (try simp (disch := omega) only [w64] at h) <;> (try exact zx)) | (with_reducible intro hz; (try exact absurd hz (Nat.succ_ne_zero _)))))
end Go.Proofs.YtbmejhabgoimeaaGreat.Eng
set_option linter.unusedVariables false
set_option linter.unusedSimpArgs false
namespace Go.Proofs.YtbmejhabgoimeaaGreat.Eng
open Go Go.RowKit
set_option maxRecDepth 100000
def s_l07ShotR (c : ShT) : Spec := fun args S => match args, S with
  | [.ptr 0 0 0, .ptr 1 j 0], [.box [.int .i64 up, .int .i64 uq, .sl 2 s n x, .int .i64 vp, .bool vb, .int .i64 gp, .int .i64 gq, .sl 3 t m y] true false, .arr (.prod (.prod (.int .i64) (.prod (.prod (.int .i64) (.int .i64)) (.prod (.int .i64) (.int .i64)))) (.prod (.prod (.int .i64) (.int .i64)) (.prod (.prod (.int .i64) (.int .i64)) (.prod (.prod (.int .i64) (.int .i64)) (.prod (.prod (.int .i64) (.int .i64)) (.prod (.int .i64) (.int .i64))))))) L sz wR, .arr (.prod (.int .i64) (.int .i64)) l 2 wr, .arr (.prod .str (.prod (.prod (.int .i64) (.int .i64)) (.prod (.int .i64) (.int .i64)))) T 5 wT] => ⟨(∃ fr : FrT × FrT × FrT × FrT × FrT, L[j]? = some (c, fr)) ∧ (m ≤ 1048576), .bool (shB m c), [.box [.int .i64 up, .int .i64 uq, .sl 2 s n x, .int .i64 vp, .bool vb, .int .i64 gp, .int .i64 gq, .sl 3 t m y] true false, .arr (.prod (.prod (.int .i64) (.prod (.prod (.int .i64) (.int .i64)) (.prod (.int .i64) (.int .i64)))) (.prod (.prod (.int .i64) (.int .i64)) (.prod (.prod (.int .i64) (.int .i64)) (.prod (.prod (.int .i64) (.int .i64)) (.prod (.prod (.int .i64) (.int .i64)) (.prod (.int .i64) (.int .i64))))))) L sz wR, .arr (.prod (.int .i64) (.int .i64)) l 2 wr, .arr (.prod .str (.prod (.prod (.int .i64) (.int .i64)) (.prod (.int .i64) (.int .i64)))) T 5 wT]⟩
  | _, _ => noSpec
theorem ok_l07ShotR (c : ShT) : SpecOk Tryz.prog 62 (s_l07ShotR c) := by
  intro args S h; unfold s_l07ShotR at h ⊢; (split at h <;> first | exact False.elim h | skip)
  dsimp only at h ⊢
  rename_i j up uq s n x vp vb gp gq t m y L sz wR l wr T wT
  obtain ⟨⟨fr, hLj⟩, h⟩ := h
  obtain ⟨i, ⟨wp, wq⟩, sp, sq⟩ := c
  refine funW tabOk (E := [(96, s_within), (110, s_fOk), (111, s_abs)]) ⟨ok_l00In, ok_l01Ok, ok_l01Abs, trivial⟩ [(1, [(29, 2)])] (k := 4) (fn := Tryz.f62) rfl rfl rfl rfl rfl rfl ?_
  (repeat' ((try (conv => whnf)); first | (with_reducible first | refine And.intro ?_ ?_ | refine WX.of ?_) | exact zc | ((with_reducible refine VC.mk ?_); exact zw) | with_reducible refine atL_p hLj ?_ | (with_reducible first | refine splitT ?_ | refine splitF ?_) | ((with_reducible refine splitM.mk (fun hsm => ?_) (fun hsm => ?_)) <;> (try exact zx)) | ((with_reducible refine splitB.mk (fun h => ?_) (fun h => ?_)) <;> (try simp only [zs, ne_eq] at h) <;> (try simp (disch := omega) only [w64] at h) <;> (try exact zx)) | (with_reducible intro hz; (try exact absurd hz (Nat.succ_ne_zero _)))))
  · exact ⟨abs_in h⟩
  · rename_i hi hf
    rw [w100 hf] at h
    exact ⟨congrArg SV.bool (by rw [sh_yes hi hf, decide_eq_true h, Bool.true_and])⟩
  · rename_i hi hf
    rw [w100 hf] at h
    exact ⟨congrArg SV.bool (by rw [sh_no3 (Int.not_le.2 h)])⟩
  · exact ⟨congrArg SV.bool (by rw [sh_no2 (by rw [h, Bool.false_and])])⟩
  · exact ⟨congrArg SV.bool (by rw [sh_no1 h])⟩
def s_l07EndsR (c : ShT) : Spec := fun args S => match args, S with
  | [.ptr 0 0 0, .ptr 1 j 0], [.box [.int .i64 up, .int .i64 uq, .sl 2 s n x, .int .i64 vp, .bool vb, .int .i64 gp, .int .i64 gq, .sl 3 t m y] true false, .arr (.prod (.prod (.int .i64) (.prod (.prod (.int .i64) (.int .i64)) (.prod (.int .i64) (.int .i64)))) (.prod (.prod (.int .i64) (.int .i64)) (.prod (.prod (.int .i64) (.int .i64)) (.prod (.prod (.int .i64) (.int .i64)) (.prod (.prod (.int .i64) (.int .i64)) (.prod (.int .i64) (.int .i64))))))) L sz wR, .arr (.prod (.int .i64) (.int .i64)) l 2 wr, .arr (.prod .str (.prod (.prod (.int .i64) (.int .i64)) (.prod (.int .i64) (.int .i64)))) T 5 wT] => ⟨(∃ fr : FrT × FrT × FrT × FrT × FrT, L[j]? = some (c, fr)) ∧ ((t + m ≤ T.length ∧ m ≤ 1048576) ∧ bnB up uq vp gp gq (seg l s n) (seg T t m) = true ∧ shB m c = true), .tup [.agg [.int .i64 (if oC (enT (seg T t m) c) = 0 then c.2.2.1 else 0), .int .i64 (if oC (enT (seg T t m) c) = 0 then c.2.2.2 else 0)], .agg [.int .i64 (zv (enT (seg T t m) c)).1, .int .i64 (zv (enT (seg T t m) c)).2], .int .i64 (oC (enT (seg T t m) c))], [.box [.int .i64 up, .int .i64 uq, .sl 2 s n x, .int .i64 vp, .bool vb, .int .i64 gp, .int .i64 gq, .sl 3 t m y] true false, .arr (.prod (.prod (.int .i64) (.prod (.prod (.int .i64) (.int .i64)) (.prod (.int .i64) (.int .i64)))) (.prod (.prod (.int .i64) (.int .i64)) (.prod (.prod (.int .i64) (.int .i64)) (.prod (.prod (.int .i64) (.int .i64)) (.prod (.prod (.int .i64) (.int .i64)) (.prod (.int .i64) (.int .i64))))))) L sz wR, .arr (.prod (.int .i64) (.int .i64)) l 2 wr, .arr (.prod .str (.prod (.prod (.int .i64) (.int .i64)) (.prod (.int .i64) (.int .i64)))) T 5 wT]⟩
  | _, _ => noSpec
set_option maxHeartbeats 1600000 in
theorem ok_l07EndsR (c : ShT) : SpecOk Tryz.prog 112 (s_l07EndsR c) := by
  intro args S h; unfold s_l07EndsR at h ⊢; (split at h <;> first | exact False.elim h | skip)
  dsimp only at h ⊢
  rename_i j up uq s n x vp vb gp gq t m y L sz wR l wr T wT
  obtain ⟨⟨fr, hLj⟩, h⟩ := h
  obtain ⟨i, ⟨wp, wq⟩, sp, sq⟩ := c
  obtain ⟨h1, hb0, hs0⟩ := h
  have hM := seg_len h1.1
  have hs := sh_at hs0
  obtain ⟨⟨nm, ⟨Lp, Lq⟩, tp, tq⟩, ha⟩ := get_some (l := seg T t m) (i := i.toNat) (by have := hs.1; omega)
  have hb := bn_at hb0 ha
  dsimp only at hb
  have e : thAt (seg T t m) (i, (wp, wq), sp, sq) = (nm, (Lp, Lq), tp, tq) := by unfold thAt; rw [ha]; rfl
  have hET : enT (seg T t m) (i, (wp, wq), sp, sq) = enO (tp, tq) (wp, wq) (Lp, Lq) (sp, sq) := by unfold enT; rw [e]
  have hi := hs.1
  rw [hET]
  refine funW tabOk (E := [(113, s_stZ), (119, s_mulZ), (143, s_addZ)]) ⟨ok_stZ, ok_l01MulZ, ok_l01AddZ, trivial⟩ [(2, [(12, 0)]), (5, [(9, 0)]), (8, [(9, 0)]), (11, [(4, 1)])] (k := 4) (fn := Tryz.f112) rfl rfl rfl rfl rfl rfl ?_
  (repeat' ((try (conv => whnf)); first | (with_reducible first | refine And.intro ?_ ?_ | refine WX.of ?_) | exact zc | ((with_reducible refine VC.mk ?_); exact zw) | with_reducible refine atL_p hLj ?_ | ((with_reducible refine VC.mk ?_); exact ⟨smF_ok hb.2.1, smF_ok hs.2.1⟩) | ((with_reducible refine VC.mk ?_); exact ⟨⟨fr, hLj⟩, ⟨smF_ok hb.2.1, smF_ok hs.2.1⟩⟩) | with_reducible refine atL_p (seg_get ha).1 ?_ | ((with_reducible refine VC.mk ?_); exact hi) | (with_reducible first | refine splitT ?_ | refine splitF ?_) | ((with_reducible refine splitM.mk (fun hsm => ?_) (fun hsm => ?_)) <;> (try exact zx)) | ((with_reducible refine splitB.mk (fun h => ?_) (fun h => ?_)) <;> (try simp only [zs, ne_eq] at h) <;> (try simp (disch := omega) only [w64] at h) <;> (try exact zx)) | (with_reducible intro hz; (try exact absurd hz (Nat.succ_ne_zero _)))))
  · obtain ⟨e1, e2⟩ := en_1 (L := (Lp, Lq)) (st := (sp, sq)) h
    refine ⟨?_⟩
    simp only [e1, e2]
    rfl
  · obtain ⟨v, ev⟩ := oC_s h
    exact ⟨⟨smF_ok hb.1, by dsimp only; rw [ev]; exact smF_ok (stO_f ev)⟩⟩
  · rename_i h0
    obtain ⟨e1, e2⟩ := en_2 (st := (sp, sq)) h0 h
    refine ⟨?_⟩
    simp only [e1, e2]
    rfl
  · obtain ⟨v, ev⟩ := oC_s h
    exact ⟨⟨smF_ok hs.2.2.2, by dsimp only; rw [ev]; exact smF_ok (rO_f ev)⟩⟩
  · rename_i h0 h2
    have e1 := en_3 (st := (sp, sq)) h0 h2
    have e2 := oC_n h
    refine ⟨?_⟩
    rw [e1, show adO (sp, sq) (zv (muO (Lp, Lq) (zv (stO (tp, tq) (wp, wq))))) = none from e2]
    rfl
  · rename_i h0 h2
    have e1 := en_3 (st := (sp, sq)) h0 h2
    refine ⟨?_⟩
    rw [e1, if_pos h, if_pos h, h]
def s_l07BackR (c : ShT) : Spec := fun args S => match args, S with
  | [.ptr 0 0 0, .ptr 1 j 0, .agg [.int .i64 ap, .int .i64 aq]], [.box [.int .i64 up, .int .i64 uq, .sl 2 s n x, .int .i64 vp, .bool vb, .int .i64 gp, .int .i64 gq, .sl 3 t m y] true false, .arr (.prod (.prod (.int .i64) (.prod (.prod (.int .i64) (.int .i64)) (.prod (.int .i64) (.int .i64)))) (.prod (.prod (.int .i64) (.int .i64)) (.prod (.prod (.int .i64) (.int .i64)) (.prod (.prod (.int .i64) (.int .i64)) (.prod (.prod (.int .i64) (.int .i64)) (.prod (.int .i64) (.int .i64))))))) L sz wR, .arr (.prod (.int .i64) (.int .i64)) l 2 wr, .arr (.prod .str (.prod (.prod (.int .i64) (.int .i64)) (.prod (.int .i64) (.int .i64)))) T 5 wT] => ⟨(∃ fr : FrT × FrT × FrT × FrT × FrT, L[j]? = some (c, fr)) ∧ ((t + m ≤ T.length ∧ m ≤ 1048576) ∧ bnB up uq vp gp gq (seg l s n) (seg T t m) = true ∧ shB m c = true ∧ smF ap aq), .tup [.agg [.int .i64 (zv (bkO (gp, gq) (thAt (seg T t m) c).2.2 c.2.1 (ap, aq))).1, .int .i64 (zv (bkO (gp, gq) (thAt (seg T t m) c).2.2 c.2.1 (ap, aq))).2], .int .i64 (oC (bkO (gp, gq) (thAt (seg T t m) c).2.2 c.2.1 (ap, aq)))], [.box [.int .i64 up, .int .i64 uq, .sl 2 s n x, .int .i64 vp, .bool vb, .int .i64 gp, .int .i64 gq, .sl 3 t m y] true false, .arr (.prod (.prod (.int .i64) (.prod (.prod (.int .i64) (.int .i64)) (.prod (.int .i64) (.int .i64)))) (.prod (.prod (.int .i64) (.int .i64)) (.prod (.prod (.int .i64) (.int .i64)) (.prod (.prod (.int .i64) (.int .i64)) (.prod (.prod (.int .i64) (.int .i64)) (.prod (.int .i64) (.int .i64))))))) L sz wR, .arr (.prod (.int .i64) (.int .i64)) l 2 wr, .arr (.prod .str (.prod (.prod (.int .i64) (.int .i64)) (.prod (.int .i64) (.int .i64)))) T 5 wT]⟩
  | _, _ => noSpec
set_option maxHeartbeats 1600000 in
theorem ok_l07BackR (c : ShT) : SpecOk Tryz.prog 117 (s_l07BackR c) := by
  intro args S h; unfold s_l07BackR at h ⊢; (split at h <;> first | exact False.elim h | skip)
  dsimp only at h ⊢
  rename_i j ap aq up uq s n x vp vb gp gq t m y L sz wR l wr T wT
  obtain ⟨⟨fr, hLj⟩, h⟩ := h
  obtain ⟨i, ⟨wp, wq⟩, sp, sq⟩ := c
  obtain ⟨h1, hb0, hs0, ha0⟩ := h
  have hM := seg_len h1.1
  have hs := sh_at hs0
  have hgg := bn_g hb0
  obtain ⟨⟨nm, ⟨Lp, Lq⟩, tp, tq⟩, ha⟩ := get_some (l := seg T t m) (i := i.toNat) (by have := hs.1; omega)
  have hb := bn_at hb0 ha
  dsimp only at hb
  have e : thAt (seg T t m) (i, (wp, wq), sp, sq) = (nm, (Lp, Lq), tp, tq) := by unfold thAt; rw [ha]; rfl
  have hi := hs.1
  rw [e]
  dsimp only
  refine funW tabOk (E := [(113, s_stZ), (119, s_mulZ), (106, s_divZ)]) ⟨ok_stZ, ok_l01MulZ, ok_l01DivZ, trivial⟩ [(1, [(12, 0)]), (4, [(19, 0)])] (k := 4) (fn := Tryz.f117) rfl rfl rfl rfl rfl rfl ?_
  (repeat' ((try (conv => whnf)); first | (with_reducible first | refine And.intro ?_ ?_ | refine WX.of ?_) | exact zc | ((with_reducible refine VC.mk ?_); exact zw) | with_reducible refine atL_p hLj ?_ | ((with_reducible refine VC.mk ?_); exact ⟨smF_ok hgg.1, smF_ok hs.2.1⟩) | ((with_reducible refine VC.mk ?_); exact ⟨⟨fr, hLj⟩, ⟨smF_ok hgg.1, smF_ok hs.2.1⟩⟩) | ((with_reducible refine VC.mk ?_); exact ⟨smF_ok hb.2.1, smF_ok hs.2.1⟩) | ((with_reducible refine VC.mk ?_); exact ⟨⟨fr, hLj⟩, ⟨smF_ok hb.2.1, smF_ok hs.2.1⟩⟩) | ((with_reducible refine VC.mk ?_); exact hi) | ((with_reducible refine VC.mk ?_); exact ⟨⟨fr, hLj⟩, hi⟩) | with_reducible refine atL_p (seg_get ha).1 ?_ | (with_reducible first | refine splitT ?_ | refine splitF ?_) | ((with_reducible refine splitM.mk (fun hsm => ?_) (fun hsm => ?_)) <;> (try exact zx)) | ((with_reducible refine splitB.mk (fun h => ?_) (fun h => ?_)) <;> (try simp only [zs, ne_eq] at h) <;> (try simp (disch := omega) only [w64] at h) <;> (try exact zx)) | (with_reducible intro hz; (try exact absurd hz (Nat.succ_ne_zero _)))))
  · have e1 := oC_n h
    refine ⟨?_⟩; simp [bkO, e1, zv, oC]
  · rename_i h0
    obtain ⟨v, ev⟩ := oC_s h0
    have e2 := oC_n h
    refine ⟨?_⟩; simp [bkO, ev, e2, zv, oC]
  · rename_i h0
    obtain ⟨v, ev⟩ := oC_s h0
    exact ⟨⟨ha0, by dsimp only; rw [ev]; exact smF_ok (stO_f ev)⟩⟩
  · rename_i h0 h1
    obtain ⟨v, ev⟩ := oC_s h0
    obtain ⟨u, eu⟩ := oC_s h1
    rw [ev] at h
    have e3 : muO (ap, aq) v = none := oC_n h
    refine ⟨?_⟩
    dsimp only
    rw [ev]
    show SV.tup [_, SV.int _ (oC (muO (ap, aq) v))] = _
    simp [bkO, ev, eu, e3, zv, oC]
  · rename_i h0 h1
    obtain ⟨v, ev⟩ := oC_s h0
    obtain ⟨u, eu⟩ := oC_s h1
    obtain ⟨z, ez⟩ := oC_s h
    have hp := st_pos (g := (tp, tq)) (w := (wp, wq)) hb.2.2 hs.2.1 hs.2.2.1 eu
    refine ⟨?_⟩
    dsimp only
    rw [ez, eu]
    exact ⟨smF_ok (rO_f ez), smF_ok (stO_f eu), by show u.1 ≠ 0; omega⟩
  · rename_i h0 h1
    obtain ⟨v, ev⟩ := oC_s h0
    obtain ⟨u, eu⟩ := oC_s h1
    obtain ⟨z, ez⟩ := oC_s h
    have ez2 := ez
    rw [ev] at ez2
    have ez3 : muO (ap, aq) v = some z := ez2
    have hbk : bkO (gp, gq) (tp, tq) (wp, wq) (ap, aq) = dvO z u := by simp [bkO, ev, eu, ez3]
    refine ⟨?_⟩
    rw [hbk]
    dsimp only
    rw [ez, eu]
    rfl
def s_l07LengthR (c : ShT) : Spec := fun args S => match args, S with
  | [.ptr 0 0 0, .ptr 1 j 0, .agg [.int .i64 fp, .int .i64 fq], .agg [.int .i64 kp, .int .i64 kq]], [.box [.int .i64 up, .int .i64 uq, .sl 2 s n x, .int .i64 vp, .bool vb, .int .i64 gp, .int .i64 gq, .sl 3 t m y] true false, .arr (.prod (.prod (.int .i64) (.prod (.prod (.int .i64) (.int .i64)) (.prod (.int .i64) (.int .i64)))) (.prod (.prod (.int .i64) (.int .i64)) (.prod (.prod (.int .i64) (.int .i64)) (.prod (.prod (.int .i64) (.int .i64)) (.prod (.prod (.int .i64) (.int .i64)) (.prod (.int .i64) (.int .i64))))))) L sz wR, .arr (.prod (.int .i64) (.int .i64)) l 2 wr, .arr (.prod .str (.prod (.prod (.int .i64) (.int .i64)) (.prod (.int .i64) (.int .i64)))) T 5 wT] => ⟨(∃ fr : FrT × FrT × FrT × FrT × FrT, L[j]? = some (c, fr)) ∧ ((t + m ≤ T.length ∧ m ≤ 1048576) ∧ bnB up uq vp gp gq (seg l s n) (seg T t m) = true ∧ shB m c = true ∧ smF fp fq ∧ smF kp kq), .tup [.agg [.int .i64 (zv (lnT (gp, gq) (seg T t m) c (fp, fq) (kp, kq))).1, .int .i64 (zv (lnT (gp, gq) (seg T t m) c (fp, fq) (kp, kq))).2], .int .i64 (oC (lnT (gp, gq) (seg T t m) c (fp, fq) (kp, kq)))], [.box [.int .i64 up, .int .i64 uq, .sl 2 s n x, .int .i64 vp, .bool vb, .int .i64 gp, .int .i64 gq, .sl 3 t m y] true false, .arr (.prod (.prod (.int .i64) (.prod (.prod (.int .i64) (.int .i64)) (.prod (.int .i64) (.int .i64)))) (.prod (.prod (.int .i64) (.int .i64)) (.prod (.prod (.int .i64) (.int .i64)) (.prod (.prod (.int .i64) (.int .i64)) (.prod (.prod (.int .i64) (.int .i64)) (.prod (.int .i64) (.int .i64))))))) L sz wR, .arr (.prod (.int .i64) (.int .i64)) l 2 wr, .arr (.prod .str (.prod (.prod (.int .i64) (.int .i64)) (.prod (.int .i64) (.int .i64)))) T 5 wT]⟩
  | _, _ => noSpec
theorem ok_l07LengthR (c : ShT) : SpecOk Tryz.prog 64 (s_l07LengthR c) := by
  intro args S h; unfold s_l07LengthR at h ⊢; (split at h <;> first | exact False.elim h | skip)
  dsimp only at h ⊢
  rename_i j fp fq kp kq up uq s n x vp vb gp gq t m y L sz wR l wr T wT
  obtain ⟨⟨fr, hLj⟩, h⟩ := h
  obtain ⟨h1, hb0, hs0, hf, hk⟩ := h
  refine funW tabOk (E := [(114, s_subZ), (117, (s_l07BackR c))]) ⟨ok_l01SubZ, (ok_l07BackR c), trivial⟩ [] (k := 4) (fn := Tryz.f64) rfl rfl rfl rfl rfl rfl ?_
  (repeat' ((try (conv => whnf)); first | (with_reducible first | refine And.intro ?_ ?_ | refine WX.of ?_) | exact zc | ((with_reducible refine VC.mk ?_); exact zw) | with_reducible refine atL_p hLj ?_ | ((with_reducible refine VC.mk ?_); exact ⟨hk, hf⟩) | ((with_reducible refine VC.mk ?_); exact ⟨⟨fr, hLj⟩, ⟨hk, hf⟩⟩) | (with_reducible first | refine splitT ?_ | refine splitF ?_) | ((with_reducible refine splitM.mk (fun hsm => ?_) (fun hsm => ?_)) <;> (try exact zx)) | ((with_reducible refine splitB.mk (fun h => ?_) (fun h => ?_)) <;> (try simp only [zs, ne_eq] at h) <;> (try simp (disch := omega) only [w64] at h) <;> (try exact zx)) | (with_reducible intro hz; (try exact absurd hz (Nat.succ_ne_zero _)))))
  · have e := oC_n h
    refine ⟨?_⟩; simp [lnT, lnO, e, zv, oC]
  · obtain ⟨v, ev⟩ := oC_s h
    exact ⟨⟨⟨fr, hLj⟩, h1, hb0, hs0, by dsimp only; rw [ev]; exact smF_ok (rO_f ev)⟩⟩
  · obtain ⟨v, ev⟩ := oC_s h
    have hln : lnT (gp, gq) (seg T t m) c (fp, fq) (kp, kq) = bkO (gp, gq) (thAt (seg T t m) c).2.2 c.2.1 v := by simp [lnT, lnO, ev]
    refine ⟨?_⟩
    rw [hln]
    dsimp only
    rw [ev]
    rfl
def s_l07OpenR (c : ShT) : Spec := fun args S => match args, S with
  | [.ptr 0 0 0, .ptr 1 j 0, .agg [.int .i64 fp, .int .i64 fq], .agg [.int .i64 kp, .int .i64 kq]], [.box [.int .i64 up, .int .i64 uq, .sl 2 s n x, .int .i64 vp, .bool vb, .int .i64 gp, .int .i64 gq, .sl 3 t m y] true false, .arr (.prod (.prod (.int .i64) (.prod (.prod (.int .i64) (.int .i64)) (.prod (.int .i64) (.int .i64)))) (.prod (.prod (.int .i64) (.int .i64)) (.prod (.prod (.int .i64) (.int .i64)) (.prod (.prod (.int .i64) (.int .i64)) (.prod (.prod (.int .i64) (.int .i64)) (.prod (.int .i64) (.int .i64))))))) L sz wR, .arr (.prod (.int .i64) (.int .i64)) l 2 wr, .arr (.prod .str (.prod (.prod (.int .i64) (.int .i64)) (.prod (.int .i64) (.int .i64)))) T 5 wT] => ⟨(∃ fr : FrT × FrT × FrT × FrT × FrT, L[j]? = some (c, fr)) ∧ (((s + n ≤ l.length ∧ n ≤ 1048576) ∧ t + m ≤ T.length ∧ m ≤ 1048576) ∧ bnB up uq vp gp gq (seg l s n) (seg T t m) = true ∧ shB m c = true ∧ smF fp fq ∧ smF kp kq), .tup [z2S (opT (up, uq) (seg l s n) vp (gp, gq) (seg T t m) c (fp, fq) (kp, kq)), .int .i64 (oS (opT (up, uq) (seg l s n) vp (gp, gq) (seg T t m) c (fp, fq) (kp, kq)))], [.box [.int .i64 up, .int .i64 uq, .sl 2 s n x, .int .i64 vp, .bool vb, .int .i64 gp, .int .i64 gq, .sl 3 t m y] true false, .arr (.prod (.prod (.int .i64) (.prod (.prod (.int .i64) (.int .i64)) (.prod (.int .i64) (.int .i64)))) (.prod (.prod (.int .i64) (.int .i64)) (.prod (.prod (.int .i64) (.int .i64)) (.prod (.prod (.int .i64) (.int .i64)) (.prod (.prod (.int .i64) (.int .i64)) (.prod (.int .i64) (.int .i64))))))) L sz wR, .arr (.prod (.int .i64) (.int .i64)) l 2 wr, .arr (.prod .str (.prod (.prod (.int .i64) (.int .i64)) (.prod (.int .i64) (.int .i64)))) T 5 wT]⟩
  | _, _ => noSpec
attribute [local irreducible] rO sbO adO muO dvO bkO dbO arO opO in
set_option maxHeartbeats 1600000 in
theorem ok_l07OpenR (c : ShT) : SpecOk Tryz.prog 65 (s_l07OpenR c) := by
  intro args S h; unfold s_l07OpenR at h ⊢; (split at h <;> first | exact False.elim h | skip)
  dsimp only at h ⊢
  rename_i j fp fq kp kq up uq s n x vp vb gp gq t m y L sz wR l wr T wT
  obtain ⟨⟨fr, hLj⟩, h⟩ := h
  obtain ⟨⟨h1, h2⟩, hb0, hs0, hf, hk⟩ := h
  have hL := seg_len h1.1
  have hgg := bn_g hb0
  have hel := sc_el hgg.2.2.2.2
  have hO : opT (up, uq) (seg l s n) vp (gp, gq) (seg T t m) c (fp, fq) (kp, kq) = opO (sbO (kp, kq) (fp, fq)) (dbO (up, uq) vp (wrN (seg l s n) n)) (gp, gq) (thAt (seg T t m) c).2.2 c.2.1 := by unfold opT; rw [hL]
  rw [hO]
  refine funW tabOk (E := [(114, s_subZ), (118, s_l02Open), (107, s_num), (119, s_mulZ), (120, s_around), (117, (s_l07BackR c)), (121, s_both)]) ⟨ok_l01SubZ, ok_l02Open, ok_l01Whole, ok_l01MulZ, ok_l01Around, (ok_l07BackR c), ok_l01Both, trivial⟩ [(4, [(10, 0)]), (7, [(1, 0), (6, 0), (6, 1)])] (k := 4) (fn := Tryz.f65) rfl rfl rfl rfl rfl rfl ?_
  (repeat' ((try (conv => whnf)); first | (with_reducible first | refine And.intro ?_ ?_ | refine WX.of ?_) | exact zc | ((with_reducible refine VC.mk ?_); exact zw) | with_reducible refine atL_p hLj ?_ | ((with_reducible refine VC.mk ?_); exact ⟨hk, hf⟩) | ((with_reducible refine VC.mk ?_); exact ⟨⟨fr, hLj⟩, ⟨hk, hf⟩⟩) | ((with_reducible refine VC.mk ?_); exact ⟨⟨h1, hel⟩, smF_ok hgg.2.2.1, hgg.2.2.2.1⟩) | ((with_reducible refine VC.mk ?_); exact ⟨⟨fr, hLj⟩, ⟨⟨h1, hel⟩, smF_ok hgg.2.2.1, hgg.2.2.2.1⟩⟩) | ((with_reducible refine VC.mk ?_); exact ⟨smF_1 (by omega), (by assumption)⟩) | ((with_reducible refine VC.mk ?_); exact ⟨⟨fr, hLj⟩, ⟨smF_1 (by omega), (by assumption)⟩⟩) | ((with_reducible refine VC.mk ?_); exact ⟨(by assumption), (by assumption)⟩) | ((with_reducible refine VC.mk ?_); exact ⟨⟨fr, hLj⟩, ⟨(by assumption), (by assumption)⟩⟩) | ((with_reducible refine VC.mk ?_); exact ⟨h2, hb0, hs0, (by assumption)⟩) | ((with_reducible refine VC.mk ?_); exact ⟨⟨fr, hLj⟩, ⟨h2, hb0, hs0, (by assumption)⟩⟩) | ((with_reducible refine splitO (by first  |  exact okO_sb _ _  |  exact okO_db _ _ _  |  exact okO_mu _ _  |  exact okO_bk _ _ _ _) (fun h => ?_) (fun a b h hs => ?_)) <;> (try rw [h])) | ((with_reducible refine splitAr (fun h => ?_) (fun x1 x2 x3 x4 h hs hs' => ?_)) <;> (try rw [h])) | (with_reducible first | refine splitT ?_ | refine splitF ?_) | ((with_reducible refine splitM.mk (fun hsm => ?_) (fun hsm => ?_)) <;> (try exact zx)) | ((with_reducible refine splitB.mk (fun h => ?_) (fun h => ?_)) <;> (try simp only [zs, ne_eq] at h) <;> (try simp (disch := omega) only [w64] at h) <;> (try exact zx)) | (with_reducible intro hz; (try exact absurd hz (Nat.succ_ne_zero _)))))
  all_goals (refine ⟨?_⟩; simp only [zv, Option.getD_some] at *; first | (simp [opO, z2S, z2, oS, oC, *]; done) | skip)
  simp only [z2, Option.getD_some, opO, Option.bind_some, z2S, *] at *
  rcases (bkO (gp, gq) (thAt (seg T t m) c).2.2 c.2.1 (x1, x2)).eq_none_or_eq_some with h5 | ⟨v, h5⟩ <;> rcases (bkO (gp, gq) (thAt (seg T t m) c).2.2 c.2.1 (x3, x4)).eq_none_or_eq_some with h6 | ⟨v', h6⟩ <;> simp [oC, oS, h5, h6]
def s_l07Ends1R (c : ShT) (e : FrT) : Spec := fun args S => match args, S with
  | [.ptr 0 0 0, .ptr 1 j 0], [.box [.int .i64 up, .int .i64 uq, .sl 2 s n x, .int .i64 vp, .bool vb, .int .i64 gp, .int .i64 gq, .sl 3 t m y] true false, .arr (.prod (.prod (.int .i64) (.prod (.prod (.int .i64) (.int .i64)) (.prod (.int .i64) (.int .i64)))) (.prod (.prod (.int .i64) (.int .i64)) (.prod (.prod (.int .i64) (.int .i64)) (.prod (.prod (.int .i64) (.int .i64)) (.prod (.prod (.int .i64) (.int .i64)) (.prod (.int .i64) (.int .i64))))))) L sz wR, .arr (.prod (.int .i64) (.int .i64)) l 2 wr, .arr (.prod .str (.prod (.prod (.int .i64) (.int .i64)) (.prod (.int .i64) (.int .i64)))) T 5 wT] => ⟨(∃ fr : FrT × FrT × FrT × FrT × FrT, L[j]? = some (c, fr)) ∧ (((t + m ≤ T.length ∧ m ≤ 1048576) ∧ bnB up uq vp gp gq (seg l s n) (seg T t m) = true ∧ shB m c = true) ∧ enT (seg T t m) c = some e), .tup [.agg [.int .i64 c.2.2.1, .int .i64 c.2.2.2], .agg [.int .i64 e.1, .int .i64 e.2], .int .i64 0], [.box [.int .i64 up, .int .i64 uq, .sl 2 s n x, .int .i64 vp, .bool vb, .int .i64 gp, .int .i64 gq, .sl 3 t m y] true false, .arr (.prod (.prod (.int .i64) (.prod (.prod (.int .i64) (.int .i64)) (.prod (.int .i64) (.int .i64)))) (.prod (.prod (.int .i64) (.int .i64)) (.prod (.prod (.int .i64) (.int .i64)) (.prod (.prod (.int .i64) (.int .i64)) (.prod (.prod (.int .i64) (.int .i64)) (.prod (.int .i64) (.int .i64))))))) L sz wR, .arr (.prod (.int .i64) (.int .i64)) l 2 wr, .arr (.prod .str (.prod (.prod (.int .i64) (.int .i64)) (.prod (.int .i64) (.int .i64)))) T 5 wT]⟩
  | _, _ => noSpec
theorem ok_l07Ends1R (c : ShT) (e : FrT) : SpecOk Tryz.prog 112 (s_l07Ends1R c e) := by
  intro args S h; unfold s_l07Ends1R at h ⊢; (split at h <;> first | exact False.elim h | skip)
  dsimp only at h ⊢
  rename_i j up uq s n x vp vb gp gq t m y L sz wR l wr T wT
  obtain ⟨⟨fr, hLj⟩, h⟩ := h
  have h2 := ok_l07EndsR c [.ptr 0 0 0, .ptr 1 j 0] [.box [.int .i64 up, .int .i64 uq, .sl 2 s n x, .int .i64 vp, .bool vb, .int .i64 gp, .int .i64 gq, .sl 3 t m y] true false, .arr (.prod (.prod (.int .i64) (.prod (.prod (.int .i64) (.int .i64)) (.prod (.int .i64) (.int .i64)))) (.prod (.prod (.int .i64) (.int .i64)) (.prod (.prod (.int .i64) (.int .i64)) (.prod (.prod (.int .i64) (.int .i64)) (.prod (.prod (.int .i64) (.int .i64)) (.prod (.int .i64) (.int .i64))))))) L sz wR, .arr (.prod (.int .i64) (.int .i64)) l 2 wr, .arr (.prod .str (.prod (.prod (.int .i64) (.int .i64)) (.prod (.int .i64) (.int .i64)))) T 5 wT] ⟨⟨fr, hLj⟩, h.1⟩
  simp only [s_l07EndsR, h.2, oC, zv_s, if_true, Option.isSome_some] at h2
  exact h2
def s_l07ReadR (c : ShT) : Spec := fun args S => match args, S with
  | [.ptr 0 0 0, .ptr 1 j 0], [.box [.int .i64 up, .int .i64 uq, .sl 2 s n x, .int .i64 vp, .bool vb, .int .i64 gp, .int .i64 gq, .sl 3 t m y] true false, .arr (.prod (.prod (.int .i64) (.prod (.prod (.int .i64) (.int .i64)) (.prod (.int .i64) (.int .i64)))) (.prod (.prod (.int .i64) (.int .i64)) (.prod (.prod (.int .i64) (.int .i64)) (.prod (.prod (.int .i64) (.int .i64)) (.prod (.prod (.int .i64) (.int .i64)) (.prod (.int .i64) (.int .i64))))))) L sz wR, .arr (.prod (.int .i64) (.int .i64)) l 2 wr, .arr (.prod .str (.prod (.prod (.int .i64) (.int .i64)) (.prod (.int .i64) (.int .i64)))) T 5 wT] => ⟨(∃ fr : FrT × FrT × FrT × FrT × FrT, L[j]? = some (c, fr)) ∧ (((s + n ≤ l.length ∧ n ≤ 1048576) ∧ t + m ≤ T.length ∧ m ≤ 1048576) ∧ bnB up uq vp gp gq (seg l s n) (seg T t m) = true ∧ shB m c = true), .tup [.agg [.int .i64 (e2V (endsE (up, uq) (seg l s n) vp vb (gp, gq) (seg T t m) c)).1.1, .int .i64 (e2V (endsE (up, uq) (seg l s n) vp vb (gp, gq) (seg T t m) c)).1.2], .agg [.int .i64 (e2V (endsE (up, uq) (seg l s n) vp vb (gp, gq) (seg T t m) c)).2.1, .int .i64 (e2V (endsE (up, uq) (seg l s n) vp vb (gp, gq) (seg T t m) c)).2.2], .int .i64 (eC (endsE (up, uq) (seg l s n) vp vb (gp, gq) (seg T t m) c))], [.box [.int .i64 up, .int .i64 uq, .sl 2 s n x, .int .i64 vp, .bool vb, .int .i64 gp, .int .i64 gq, .sl 3 t m y] true false, .arr (.prod (.prod (.int .i64) (.prod (.prod (.int .i64) (.int .i64)) (.prod (.int .i64) (.int .i64)))) (.prod (.prod (.int .i64) (.int .i64)) (.prod (.prod (.int .i64) (.int .i64)) (.prod (.prod (.int .i64) (.int .i64)) (.prod (.prod (.int .i64) (.int .i64)) (.prod (.int .i64) (.int .i64))))))) L sz wR, .arr (.prod (.int .i64) (.int .i64)) l 2 wr, .arr (.prod .str (.prod (.prod (.int .i64) (.int .i64)) (.prod (.int .i64) (.int .i64)))) T 5 wT]⟩
  | _, _ => noSpec
attribute [local irreducible] sbO muO adO dvO stO enT warmE readE endsE rdE bnB shB in
set_option maxHeartbeats 3200000 in
theorem ok_l07ReadR (c : ShT) : SpecOk Tryz.prog 63 (s_l07ReadR c) := by
  intro args S h; unfold s_l07ReadR at h ⊢; (split at h <;> first | exact False.elim h | skip)
  dsimp only at h ⊢
  rename_i j up uq s n x vp vb gp gq t m y0 L sz wR l wr T wT
  obtain ⟨⟨fr, hLj⟩, h⟩ := h
  obtain ⟨hq, hbn, hshb⟩ := h
  have hL := seg_len hq.1.1
  have hgg := bn_g hbn
  have hsh := sh_e hshb
  have hgs := smF_ok hgg.1
  have hws := smF_ok hsh.2.1
  rcases ends_c (up, uq) (seg l s n) vp vb (gp, gq) (seg T t m) c with ⟨he, hE⟩ | ⟨e, he, hcc⟩
  · rw [hE]
    have hcn : decide (oC (enT (seg T t m) c) ≠ 0) = true := by rw [he]; rfl
    refine funW tabOk (E := [(112, (s_l07EndsR c))]) ⟨(ok_l07EndsR c), trivial⟩ [(4, [(12, 0)]), (7, [(0, 1), (6, 0), (6, 1)]), (10, [(9, 0)]), (17, [(10, 0)]), (24, [(3, 1)])] (k := 4) (fn := Tryz.f63) rfl rfl rfl rfl rfl rfl ?_
    (repeat' ((try (conv => whnf)); first | (with_reducible first | refine And.intro ?_ ?_ | refine WX.of ?_) | exact zc | ((with_reducible refine VC.mk ?_); exact zw) | with_reducible refine atL_p hLj ?_ | ((with_reducible refine splitT_of ?_ ?_); (focus (simp only [hcn, Bool.not_true, Bool.not_false, decide_true, decide_false]; done))) | ((with_reducible refine splitF_of ?_ ?_); (focus (simp only [hcn, Bool.not_true, Bool.not_false, decide_true, decide_false]; done))) | ((with_reducible refine VC.mk ?_); exact ⟨hq.2, hbn, hshb⟩) | ((with_reducible refine VC.mk ?_); exact ⟨⟨fr, hLj⟩, ⟨hq.2, hbn, hshb⟩⟩) | (with_reducible first | refine splitT ?_ | refine splitF ?_) | ((with_reducible refine splitM.mk (fun hsm => ?_) (fun hsm => ?_)) <;> (try exact zx)) | ((with_reducible refine splitB.mk (fun h => ?_) (fun h => ?_)) <;> (try simp only [zs, ne_eq] at h) <;> (try simp (disch := omega) only [w64] at h) <;> (try exact zx)) | (with_reducible intro hz; (try exact absurd hz (Nat.succ_ne_zero _)))))
    all_goals exact ⟨by rw [he]; rfl⟩
  · rcases hcc with ⟨hs, hE⟩ | ⟨st, hs, hcc⟩
    · rw [hE]
      have hcn : decide (oC (stO (gp, gq) c.2.1) ≠ 0) = true := by rw [hs]; rfl
      refine funW tabOk (E := [(112, (s_l07Ends1R c e)), (113, s_stZ)]) ⟨(ok_l07Ends1R c e), ok_stZ, trivial⟩ [(4, [(12, 0)]), (7, [(0, 1), (6, 0), (6, 1)]), (10, [(9, 0)]), (17, [(10, 0)]), (24, [(3, 1)])] (k := 4) (fn := Tryz.f63) rfl rfl rfl rfl rfl rfl ?_
      (repeat' ((try (conv => whnf)); first | (with_reducible first | refine And.intro ?_ ?_ | refine WX.of ?_) | exact zc | ((with_reducible refine VC.mk ?_); exact zw) | with_reducible refine atL_p hLj ?_ | ((with_reducible refine VC.mk ?_); exact ⟨⟨hq.2, hbn, hshb⟩, he⟩) | ((with_reducible refine VC.mk ?_); exact ⟨⟨fr, hLj⟩, ⟨⟨hq.2, hbn, hshb⟩, he⟩⟩) | ((with_reducible refine VC.mk ?_); exact ⟨hgs, hws⟩) | ((with_reducible refine VC.mk ?_); exact ⟨⟨fr, hLj⟩, ⟨hgs, hws⟩⟩) | ((with_reducible refine splitT_of ?_ ?_); (focus (simp only [hcn, pr_eta, Bool.not_true, Bool.not_false, decide_true, decide_false]; done))) | ((with_reducible refine splitF_of ?_ ?_); (focus (simp only [hcn, pr_eta, Bool.not_true, Bool.not_false, decide_true, decide_false]; done))) | (with_reducible first | refine splitT ?_ | refine splitF ?_) | ((with_reducible refine splitM.mk (fun hsm => ?_) (fun hsm => ?_)) <;> (try exact zx)) | ((with_reducible refine splitB.mk (fun h => ?_) (fun h => ?_)) <;> (try simp only [zs, ne_eq] at h) <;> (try simp (disch := omega) only [w64] at h) <;> (try exact zx)) | (with_reducible intro hz; (try exact absurd hz (Nat.succ_ne_zero _)))))
      all_goals exact ⟨by simp only [pr_eta]; rw [hs]; rfl⟩
    · have hst := smF_ok (stO_f hs)
      have hpos := st_pos hgg.2.1 hsh.2.1 hsh.2.2.1 hs
      rcases hcc with ⟨hb, hE⟩ | ⟨y, hb, hcc⟩
      · rw [hE]
        have hcn : decide (oC (sbO st (1, 1)) ≠ 0) = true := by rw [hb]; rfl
        refine funW tabOk (E := [(112, (s_l07Ends1R c e)), (113, (s_stZP st)), (107, s_num), (114, s_subZ)]) ⟨(ok_l07Ends1R c e), (ok_stZP st), ok_l01Whole, ok_l01SubZ, trivial⟩ [(4, [(12, 0)]), (7, [(0, 1), (6, 0), (6, 1)]), (10, [(9, 0)]), (17, [(10, 0)]), (24, [(3, 1)])] (k := 4) (fn := Tryz.f63) rfl rfl rfl rfl rfl rfl ?_
        (repeat' ((try (conv => whnf)); first | (with_reducible first | refine And.intro ?_ ?_ | refine WX.of ?_) | exact zc | ((with_reducible refine VC.mk ?_); exact zw) | with_reducible refine atL_p hLj ?_ | ((with_reducible refine VC.mk ?_); exact ⟨⟨hq.2, hbn, hshb⟩, he⟩) | ((with_reducible refine VC.mk ?_); exact ⟨⟨fr, hLj⟩, ⟨⟨hq.2, hbn, hshb⟩, he⟩⟩) | ((with_reducible refine VC.mk ?_); exact ⟨⟨hgs, hws⟩, hs⟩) | ((with_reducible refine VC.mk ?_); exact ⟨⟨fr, hLj⟩, ⟨⟨hgs, hws⟩, hs⟩⟩) | ((with_reducible refine VC.mk ?_); exact ⟨hst, smF_1 (by omega)⟩) | ((with_reducible refine VC.mk ?_); exact ⟨⟨fr, hLj⟩, ⟨hst, smF_1 (by omega)⟩⟩) | ((with_reducible refine splitT_of ?_ ?_); (focus (simp only [hcn, pr_eta, Bool.not_true, Bool.not_false, decide_true, decide_false]; done))) | ((with_reducible refine splitF_of ?_ ?_); (focus (simp only [hcn, pr_eta, Bool.not_true, Bool.not_false, decide_true, decide_false]; done))) | (with_reducible first | refine splitT ?_ | refine splitF ?_) | ((with_reducible refine splitM.mk (fun hsm => ?_) (fun hsm => ?_)) <;> (try exact zx)) | ((with_reducible refine splitB.mk (fun h => ?_) (fun h => ?_)) <;> (try simp only [zs, ne_eq] at h) <;> (try simp (disch := omega) only [w64] at h) <;> (try exact zx)) | (with_reducible intro hz; (try exact absurd hz (Nat.succ_ne_zero _)))))
        all_goals exact ⟨by simp only [pr_eta]; rw [hb]; rfl⟩
      · have hy := okO_sb _ _ _ hb
        rcases hcc with ⟨k, hk0, hw, hE⟩ | ⟨w, E', hw, hE⟩
        · rw [hE]
          have hcn : decide (k ≠ 0) = true := decide_eq_true hk0
          refine funW tabOk (E := [(112, (s_l07Ends1R c e)), (113, (s_stZP st)), (107, s_num), (114, (s_subZP y)), (115, (s_warm0 k))]) ⟨(ok_l07Ends1R c e), (ok_stZP st), ok_l01Whole, (ok_subZP y), (ok_warm0S k), trivial⟩ [(4, [(12, 0)]), (7, [(0, 1), (6, 0), (6, 1)]), (10, [(9, 0)]), (17, [(10, 0)]), (24, [(3, 1)])] (k := 4) (fn := Tryz.f63) rfl rfl rfl rfl rfl rfl ?_
          (repeat' ((try (conv => whnf)); first | (with_reducible first | refine And.intro ?_ ?_ | refine WX.of ?_) | exact zc | ((with_reducible refine VC.mk ?_); exact zw) | with_reducible refine atL_p hLj ?_ | ((with_reducible refine splitT_of ?_ ?_); (focus (simp only [hcn, Bool.not_true, Bool.not_false, decide_true, decide_false]; done))) | ((with_reducible refine splitF_of ?_ ?_); (focus (simp only [hcn, Bool.not_true, Bool.not_false, decide_true, decide_false]; done))) | ((with_reducible refine VC.mk ?_); exact ⟨⟨hq.2, hbn, hshb⟩, he⟩) | ((with_reducible refine VC.mk ?_); exact ⟨⟨fr, hLj⟩, ⟨⟨hq.2, hbn, hshb⟩, he⟩⟩) | ((with_reducible refine VC.mk ?_); exact ⟨⟨hgs, hws⟩, hs⟩) | ((with_reducible refine VC.mk ?_); exact ⟨⟨fr, hLj⟩, ⟨⟨hgs, hws⟩, hs⟩⟩) | ((with_reducible refine VC.mk ?_); exact ⟨⟨hst, smF_1 (by omega)⟩, hb⟩) | ((with_reducible refine VC.mk ?_); exact ⟨⟨fr, hLj⟩, ⟨⟨hst, smF_1 (by omega)⟩, hb⟩⟩) | ((with_reducible refine VC.mk ?_); exact ⟨⟨hq.1.1, hgg.2.2.2.2, hy⟩, hw⟩) | ((with_reducible refine VC.mk ?_); exact ⟨⟨fr, hLj⟩, ⟨⟨hq.1.1, hgg.2.2.2.2, hy⟩, hw⟩⟩) | (with_reducible first | refine splitT ?_ | refine splitF ?_) | ((with_reducible refine splitM.mk (fun hsm => ?_) (fun hsm => ?_)) <;> (try exact zx)) | ((with_reducible refine splitB.mk (fun h => ?_) (fun h => ?_)) <;> (try simp only [zs, ne_eq] at h) <;> (try simp (disch := omega) only [w64] at h) <;> (try exact zx)) | (with_reducible intro hz; (try exact absurd hz (Nat.succ_ne_zero _)))))
        · rw [hE]
          obtain ⟨f, hwo⟩ := (warm_ok hw).2
          have hE3 : E'.length = n := by rw [← hwo.2.2.2.2, wm_len, hL]
          have hE2 : seg E' 0 n = E' := seg_full hE3
          have hwsc := hwo.2.2.2.1
          have hE4 : 0 + n ≤ E'.length := by omega
          have hen := smF_ok (en_f he)
          have hbe := smF_ok hsh.2.2.2
          refine funW tabOk (E := [(112, (s_l07Ends1R c e)), (113, (s_stZP st)), (107, s_num), (114, (s_subZP y)), (115, (s_warm1 w E')), (116, (s_l02ReadQ w E')), (106, s_divZ)]) ⟨(ok_l07Ends1R c e), (ok_stZP st), ok_l01Whole, (ok_subZP y), (ok_warm1S w E'), (ok_l02ReadQ w E'), ok_l01DivZ, trivial⟩ [(4, [(12, 0)]), (7, [(0, 1), (6, 0), (6, 1)]), (10, [(9, 0)]), (17, [(10, 0)]), (24, [(3, 1)])] (k := 4) (fn := Tryz.f63) rfl rfl rfl rfl rfl rfl ?_
          (repeat' ((try (conv => whnf)); first | (with_reducible first | refine And.intro ?_ ?_ | refine WX.of ?_) | exact zc | ((with_reducible refine VC.mk ?_); exact zw) | with_reducible refine atL_p hLj ?_ | ((with_reducible refine VC.mk ?_); exact ⟨⟨hq.2, hbn, hshb⟩, he⟩) | ((with_reducible refine VC.mk ?_); exact ⟨⟨fr, hLj⟩, ⟨⟨hq.2, hbn, hshb⟩, he⟩⟩) | ((with_reducible refine VC.mk ?_); exact ⟨⟨hgs, hws⟩, hs⟩) | ((with_reducible refine VC.mk ?_); exact ⟨⟨fr, hLj⟩, ⟨⟨hgs, hws⟩, hs⟩⟩) | ((with_reducible refine VC.mk ?_); exact ⟨⟨hst, smF_1 (by omega)⟩, hb⟩) | ((with_reducible refine VC.mk ?_); exact ⟨⟨fr, hLj⟩, ⟨⟨hst, smF_1 (by omega)⟩, hb⟩⟩) | ((with_reducible refine VC.mk ?_); exact ⟨⟨hq.1.1, hgg.2.2.2.2, hy⟩, hw⟩) | ((with_reducible refine VC.mk ?_); exact ⟨⟨fr, hLj⟩, ⟨⟨hq.1.1, hgg.2.2.2.2, hy⟩, hw⟩⟩) | (with_reducible first | refine splitT ?_ | refine splitF ?_) | ((with_reducible refine splitM.mk (fun hsm => ?_) (fun hsm => ?_)) <;> (try exact zx)) | ((with_reducible refine splitB.mk (fun h => ?_) (fun h => ?_)) <;> (try simp only [zs, ne_eq] at h) <;> (try simp (disch := omega) only [w64] at h) <;> (try exact zx)) | (with_reducible intro hz; (try exact absurd hz (Nat.succ_ne_zero _)))))
          refine loopW tabOk (E := [(112, (s_l07Ends1R c e)), (113, (s_stZP st)), (107, s_num), (114, (s_subZP y)), (115, (s_warm1 w E')), (116, (s_l02ReadQ w E')), (106, s_divZ)]) ⟨(ok_l07Ends1R c e), (ok_stZP st), ok_l01Whole, (ok_subZP y), (ok_warm1S w E'), (ok_l02ReadQ w E'), ok_l01DivZ, trivial⟩ [(4, [(12, 0)]), (7, [(0, 1), (6, 0), (6, 1)]), (10, [(9, 0)]), (17, [(10, 0)]), (24, [(3, 1)])] (σ := List FrT) (fun O => match O with | [] => [(0, .ptr 0 0 0), (1, .ptr 1 j 0), (4, .ptr 4 0 0), (5, .ptr 5 0 0), (10, .ptr 6 0 0), (14, .ptr 7 0 0), (16, .ptr 9 0 0), (17, .int .i64 0)] | [_] => [(0, .ptr 0 0 0), (1, .ptr 1 j 0), (4, .ptr 4 0 0), (5, .ptr 5 0 0), (10, .ptr 6 0 0), (14, .ptr 7 0 0), (16, .ptr 9 0 0), (17, .int .i64 1)] | _ => [(0, .ptr 0 0 0), (1, .ptr 1 j 0), (4, .ptr 4 0 0), (5, .ptr 5 0 0), (10, .ptr 6 0 0), (14, .ptr 7 0 0), (16, .ptr 9 0 0), (17, .int .i64 2)]) (fun O => [.box [.int .i64 up, .int .i64 uq, .sl 2 s n x, .int .i64 vp, .bool vb, .int .i64 gp, .int .i64 gq, .sl 3 t m y0] true false, .arr (.prod (.prod (.int .i64) (.prod (.prod (.int .i64) (.int .i64)) (.prod (.int .i64) (.int .i64)))) (.prod (.prod (.int .i64) (.int .i64)) (.prod (.prod (.int .i64) (.int .i64)) (.prod (.prod (.int .i64) (.int .i64)) (.prod (.prod (.int .i64) (.int .i64)) (.prod (.int .i64) (.int .i64))))))) L sz wR, .arr (.prod (.int .i64) (.int .i64)) l 2 wr, .arr (.prod .str (.prod (.prod (.int .i64) (.int .i64)) (.prod (.int .i64) (.int .i64)))) T 5 wT, .arr (.prod (.int .i64) (.int .i64)) [(0, 0)] 0 true, .arr (.prod (.int .i64) (.int .i64)) [(0, 0)] 0 true, .arr (.prod (.int .i64) (.int .i64)) [st] 0 true, .box [.int .i64 w.1, .int .i64 w.2, .sl 8 0 n 0] true false, .arr (.prod (.int .i64) (.int .i64)) E' 2 true, .arr (.prod (.int .i64) (.int .i64)) (match O with | [] => [c.2.2, e] | [d1] => [d1, e] | d1 :: d2 :: _ => [d1, d2]) 0 true]) (fun O => 2 - O.length) (fun O => O = [] ∨ (∃ d1, oneE w E' vp vb st c.2.2 = .ok d1 ∧ O = [d1]) ∨ ∃ d1 d2, oneE w E' vp vb st c.2.2 = .ok d1 ∧ oneE w E' vp vb st e = .ok d2 ∧ O = [d1, d2]) [] (.inl rfl) ?_ ?_
          · (repeat' ((try (conv => whnf)); first | (with_reducible first | refine And.intro ?_ ?_ | refine WX.of ?_) | exact zc | ((with_reducible refine VC.mk ?_); exact zw) | with_reducible refine atL_p hLj ?_ | (with_reducible first | refine splitT ?_ | refine splitF ?_) | ((with_reducible refine splitM.mk (fun hsm => ?_) (fun hsm => ?_)) <;> (try exact zx)) | ((with_reducible refine splitB.mk (fun h => ?_) (fun h => ?_)) <;> (try simp only [zs, ne_eq] at h) <;> (try simp (disch := omega) only [w64] at h) <;> (try exact zx)) | (with_reducible intro hz; (try exact absurd hz (Nat.succ_ne_zero _)))))
          · intro O hO
            rcases hO with rfl | ⟨d1, h1, rfl⟩ | ⟨d1, d2, h1, h2, rfl⟩
            · (repeat' ((try (conv => whnf)); first | (with_reducible first | refine And.intro ?_ ?_ | refine WX.of ?_) | exact zc | ((with_reducible refine VC.mk ?_); exact zw) | with_reducible refine atL_p hLj ?_ | ((with_reducible refine VC.mk ?_); exact ⟨⟨rfl, hE2⟩, hE4, hwsc, hgg.2.2.2.1, hbe⟩) | ((with_reducible refine VC.mk ?_); exact ⟨⟨fr, hLj⟩, ⟨⟨rfl, hE2⟩, hE4, hwsc, hgg.2.2.2.1, hbe⟩⟩) | ((with_reducible refine VC.mk ?_); exact ⟨smF_ok (read_f (by assumption)), hst, (by omega)⟩) | ((with_reducible refine VC.mk ?_); exact ⟨⟨fr, hLj⟩, ⟨smF_ok (read_f (by assumption)), hst, (by omega)⟩⟩) | ((with_reducible refine splitE (enz_read _ _ _ _ _) (fun c h => ?_) (fun a h => ?_)) <;> (rw [h])) | ((with_reducible refine splitO (by first  |  exact okO_sb _ _  |  exact okO_mu _ _  |  exact okO_ad _ _  |  exact okO_dv _ _  |  exact okO_bind _ _ fun _ => okO_ad _ _  |  exact okO_sb _ _) (fun h => ?_) (fun a b h hs => ?_)) <;> (try rw [h]) <;> (try simp only [zv_s] at h) <;> (try dsimp only at h)) | ((with_reducible refine splitT_of ?_ ?_); (focus (rfl))) | ((with_reducible refine splitF_of ?_ ?_); (focus (rfl))) | (with_reducible first | refine splitT ?_ | refine splitF ?_) | ((with_reducible refine splitM.mk (fun hsm => ?_) (fun hsm => ?_)) <;> (try exact zx)) | ((with_reducible refine splitB.mk (fun h => ?_) (fun h => ?_)) <;> (try simp only [zs, ne_eq] at h) <;> (try simp (disch := omega) only [w64] at h) <;> (try exact zx)) | (with_reducible intro hz; (try exact absurd hz (Nat.succ_ne_zero _)))))
              · rw [one_1 h]; exact ⟨rfl⟩
              · rename_i hr
                rw [one_2 hr h]; exact ⟨rfl⟩
              · rename_i hr
                refine ⟨[(a, b)], by simp, .inr (.inl ⟨(a, b), one_3 hr h, rfl⟩), ?_⟩
                (repeat' ((try (conv => whnf)); first | (with_reducible first | refine And.intro ?_ ?_ | refine WX.of ?_) | exact zc | ((with_reducible refine VC.mk ?_); exact zw) | with_reducible refine atL_p hLj ?_ | (with_reducible first | refine splitT ?_ | refine splitF ?_) | ((with_reducible refine splitM.mk (fun hsm => ?_) (fun hsm => ?_)) <;> (try exact zx)) | ((with_reducible refine splitB.mk (fun h => ?_) (fun h => ?_)) <;> (try simp only [zs, ne_eq] at h) <;> (try simp (disch := omega) only [w64] at h) <;> (try exact zx)) | (with_reducible intro hz; (try exact absurd hz (Nat.succ_ne_zero _)))))
                all_goals trace_state
            · (repeat' ((try (conv => whnf)); first | (with_reducible first | refine And.intro ?_ ?_ | refine WX.of ?_) | exact zc | ((with_reducible refine VC.mk ?_); exact zw) | with_reducible refine atL_p hLj ?_ | ((with_reducible refine VC.mk ?_); exact ⟨⟨rfl, hE2⟩, hE4, hwsc, hgg.2.2.2.1, hen⟩) | ((with_reducible refine VC.mk ?_); exact ⟨⟨fr, hLj⟩, ⟨⟨rfl, hE2⟩, hE4, hwsc, hgg.2.2.2.1, hen⟩⟩) | ((with_reducible refine VC.mk ?_); exact ⟨smF_ok (read_f (by assumption)), hst, (by omega)⟩) | ((with_reducible refine VC.mk ?_); exact ⟨⟨fr, hLj⟩, ⟨smF_ok (read_f (by assumption)), hst, (by omega)⟩⟩) | ((with_reducible refine splitE (enz_read _ _ _ _ _) (fun c h => ?_) (fun a h => ?_)) <;> (rw [h])) | ((with_reducible refine splitO (by first  |  exact okO_sb _ _  |  exact okO_mu _ _  |  exact okO_ad _ _  |  exact okO_dv _ _  |  exact okO_bind _ _ fun _ => okO_ad _ _  |  exact okO_sb _ _) (fun h => ?_) (fun a b h hs => ?_)) <;> (try rw [h]) <;> (try simp only [zv_s] at h) <;> (try dsimp only at h)) | ((with_reducible refine splitT_of ?_ ?_); (focus (rfl))) | ((with_reducible refine splitF_of ?_ ?_); (focus (rfl))) | (with_reducible first | refine splitT ?_ | refine splitF ?_) | ((with_reducible refine splitM.mk (fun hsm => ?_) (fun hsm => ?_)) <;> (try exact zx)) | ((with_reducible refine splitB.mk (fun h => ?_) (fun h => ?_)) <;> (try simp only [zs, ne_eq] at h) <;> (try simp (disch := omega) only [w64] at h) <;> (try exact zx)) | (with_reducible intro hz; (try exact absurd hz (Nat.succ_ne_zero _)))))
              · rw [h1, one_1 h]; exact ⟨rfl⟩
              · rename_i hr
                rw [h1, one_2 hr h]; exact ⟨rfl⟩
              · rename_i hr
                refine ⟨[d1, (a, b)], by simp, .inr (.inr ⟨d1, (a, b), h1, one_3 hr h, rfl⟩), ?_⟩
                (repeat' ((try (conv => whnf)); first | (with_reducible first | refine And.intro ?_ ?_ | refine WX.of ?_) | exact zc | ((with_reducible refine VC.mk ?_); exact zw) | with_reducible refine atL_p hLj ?_ | (with_reducible first | refine splitT ?_ | refine splitF ?_) | ((with_reducible refine splitM.mk (fun hsm => ?_) (fun hsm => ?_)) <;> (try exact zx)) | ((with_reducible refine splitB.mk (fun h => ?_) (fun h => ?_)) <;> (try simp only [zs, ne_eq] at h) <;> (try simp (disch := omega) only [w64] at h) <;> (try exact zx)) | (with_reducible intro hz; (try exact absurd hz (Nat.succ_ne_zero _)))))
                all_goals trace_state
            · rw [h1, h2]
              (repeat' ((try (conv => whnf)); first | (with_reducible first | refine And.intro ?_ ?_ | refine WX.of ?_) | exact zc | ((with_reducible refine VC.mk ?_); exact zw) | with_reducible refine atL_p hLj ?_ | ((with_reducible refine splitT_of ?_ ?_); (focus (rfl))) | ((with_reducible refine splitF_of ?_ ?_); (focus (rfl))) | (with_reducible first | refine splitT ?_ | refine splitF ?_) | ((with_reducible refine splitM.mk (fun hsm => ?_) (fun hsm => ?_)) <;> (try exact zx)) | ((with_reducible refine splitB.mk (fun h => ?_) (fun h => ?_)) <;> (try simp only [zs, ne_eq] at h) <;> (try simp (disch := omega) only [w64] at h) <;> (try exact zx)) | (with_reducible intro hz; (try exact absurd hz (Nat.succ_ne_zero _)))))
def s_l07Read1R (c : ShT) (d1 d2 : FrT) : Spec := fun args S => match args, S with
  | [.ptr 0 0 0, .ptr 1 j 0], [.box [.int .i64 up, .int .i64 uq, .sl 2 s n x, .int .i64 vp, .bool vb, .int .i64 gp, .int .i64 gq, .sl 3 t m y] true false, .arr (.prod (.prod (.int .i64) (.prod (.prod (.int .i64) (.int .i64)) (.prod (.int .i64) (.int .i64)))) (.prod (.prod (.int .i64) (.int .i64)) (.prod (.prod (.int .i64) (.int .i64)) (.prod (.prod (.int .i64) (.int .i64)) (.prod (.prod (.int .i64) (.int .i64)) (.prod (.int .i64) (.int .i64))))))) L sz wR, .arr (.prod (.int .i64) (.int .i64)) l 2 wr, .arr (.prod .str (.prod (.prod (.int .i64) (.int .i64)) (.prod (.int .i64) (.int .i64)))) T 5 wT] => ⟨(∃ fr : FrT × FrT × FrT × FrT × FrT, L[j]? = some (c, fr)) ∧ ((((s + n ≤ l.length ∧ n ≤ 1048576) ∧ t + m ≤ T.length ∧ m ≤ 1048576) ∧ bnB up uq vp gp gq (seg l s n) (seg T t m) = true ∧ shB m c = true) ∧ endsE (up, uq) (seg l s n) vp vb (gp, gq) (seg T t m) c = .ok (d1, d2)), .tup [.agg [.int .i64 d1.1, .int .i64 d1.2], .agg [.int .i64 d2.1, .int .i64 d2.2], .int .i64 0], [.box [.int .i64 up, .int .i64 uq, .sl 2 s n x, .int .i64 vp, .bool vb, .int .i64 gp, .int .i64 gq, .sl 3 t m y] true false, .arr (.prod (.prod (.int .i64) (.prod (.prod (.int .i64) (.int .i64)) (.prod (.int .i64) (.int .i64)))) (.prod (.prod (.int .i64) (.int .i64)) (.prod (.prod (.int .i64) (.int .i64)) (.prod (.prod (.int .i64) (.int .i64)) (.prod (.prod (.int .i64) (.int .i64)) (.prod (.int .i64) (.int .i64))))))) L sz wR, .arr (.prod (.int .i64) (.int .i64)) l 2 wr, .arr (.prod .str (.prod (.prod (.int .i64) (.int .i64)) (.prod (.int .i64) (.int .i64)))) T 5 wT]⟩
  | _, _ => noSpec
theorem ok_l07Read1R (c : ShT) (d1 d2 : FrT) : SpecOk Tryz.prog 63 (s_l07Read1R c d1 d2) := by
  intro args S h; unfold s_l07Read1R at h ⊢; (split at h <;> first | exact False.elim h | skip)
  dsimp only at h ⊢
  rename_i j up uq s n x vp vb gp gq t m y L sz wR l wr T wT
  obtain ⟨⟨fr, hLj⟩, h⟩ := h
  have h2 := ok_l07ReadR c [.ptr 0 0 0, .ptr 1 j 0] [.box [.int .i64 up, .int .i64 uq, .sl 2 s n x, .int .i64 vp, .bool vb, .int .i64 gp, .int .i64 gq, .sl 3 t m y] true false, .arr (.prod (.prod (.int .i64) (.prod (.prod (.int .i64) (.int .i64)) (.prod (.int .i64) (.int .i64)))) (.prod (.prod (.int .i64) (.int .i64)) (.prod (.prod (.int .i64) (.int .i64)) (.prod (.prod (.int .i64) (.int .i64)) (.prod (.prod (.int .i64) (.int .i64)) (.prod (.int .i64) (.int .i64))))))) L sz wR, .arr (.prod (.int .i64) (.int .i64)) l 2 wr, .arr (.prod .str (.prod (.prod (.int .i64) (.int .i64)) (.prod (.int .i64) (.int .i64)))) T 5 wT] ⟨⟨fr, hLj⟩, h.1⟩
  simp only [s_l07ReadR, h.2, e2V, eV, eC] at h2
  exact h2
def s_l07Read0R (c : ShT) (k : Int) : Spec := fun args S => match args, S with
  | [.ptr 0 0 0, .ptr 1 j 0], [.box [.int .i64 up, .int .i64 uq, .sl 2 s n x, .int .i64 vp, .bool vb, .int .i64 gp, .int .i64 gq, .sl 3 t m y] true false, .arr (.prod (.prod (.int .i64) (.prod (.prod (.int .i64) (.int .i64)) (.prod (.int .i64) (.int .i64)))) (.prod (.prod (.int .i64) (.int .i64)) (.prod (.prod (.int .i64) (.int .i64)) (.prod (.prod (.int .i64) (.int .i64)) (.prod (.prod (.int .i64) (.int .i64)) (.prod (.int .i64) (.int .i64))))))) L sz wR, .arr (.prod (.int .i64) (.int .i64)) l 2 wr, .arr (.prod .str (.prod (.prod (.int .i64) (.int .i64)) (.prod (.int .i64) (.int .i64)))) T 5 wT] => ⟨(∃ fr : FrT × FrT × FrT × FrT × FrT, L[j]? = some (c, fr)) ∧ ((((s + n ≤ l.length ∧ n ≤ 1048576) ∧ t + m ≤ T.length ∧ m ≤ 1048576) ∧ bnB up uq vp gp gq (seg l s n) (seg T t m) = true ∧ shB m c = true) ∧ endsE (up, uq) (seg l s n) vp vb (gp, gq) (seg T t m) c = .error k), .tup [.agg [.int .i64 0, .int .i64 0], .agg [.int .i64 0, .int .i64 0], .int .i64 k], [.box [.int .i64 up, .int .i64 uq, .sl 2 s n x, .int .i64 vp, .bool vb, .int .i64 gp, .int .i64 gq, .sl 3 t m y] true false, .arr (.prod (.prod (.int .i64) (.prod (.prod (.int .i64) (.int .i64)) (.prod (.int .i64) (.int .i64)))) (.prod (.prod (.int .i64) (.int .i64)) (.prod (.prod (.int .i64) (.int .i64)) (.prod (.prod (.int .i64) (.int .i64)) (.prod (.prod (.int .i64) (.int .i64)) (.prod (.int .i64) (.int .i64))))))) L sz wR, .arr (.prod (.int .i64) (.int .i64)) l 2 wr, .arr (.prod .str (.prod (.prod (.int .i64) (.int .i64)) (.prod (.int .i64) (.int .i64)))) T 5 wT]⟩
  | _, _ => noSpec
theorem ok_l07Read0R (c : ShT) (k : Int) : SpecOk Tryz.prog 63 (s_l07Read0R c k) := by
  intro args S h; unfold s_l07Read0R at h ⊢; (split at h <;> first | exact False.elim h | skip)
  dsimp only at h ⊢
  rename_i j up uq s n x vp vb gp gq t m y L sz wR l wr T wT
  obtain ⟨⟨fr, hLj⟩, h⟩ := h
  have h2 := ok_l07ReadR c [.ptr 0 0 0, .ptr 1 j 0] [.box [.int .i64 up, .int .i64 uq, .sl 2 s n x, .int .i64 vp, .bool vb, .int .i64 gp, .int .i64 gq, .sl 3 t m y] true false, .arr (.prod (.prod (.int .i64) (.prod (.prod (.int .i64) (.int .i64)) (.prod (.int .i64) (.int .i64)))) (.prod (.prod (.int .i64) (.int .i64)) (.prod (.prod (.int .i64) (.int .i64)) (.prod (.prod (.int .i64) (.int .i64)) (.prod (.prod (.int .i64) (.int .i64)) (.prod (.int .i64) (.int .i64))))))) L sz wR, .arr (.prod (.int .i64) (.int .i64)) l 2 wr, .arr (.prod .str (.prod (.prod (.int .i64) (.int .i64)) (.prod (.int .i64) (.int .i64)))) T 5 wT] ⟨⟨fr, hLj⟩, h.1⟩
  simp only [s_l07ReadR, h.2, e2V, eV, eC] at h2
  exact h2
def s_l07TakeR (c : ShT) : Spec := fun args S => match args, S with
  | [.ptr 0 0 0, .ptr 1 j 0], [.box [.int .i64 up, .int .i64 uq, .sl 2 s n x, .int .i64 vp, .bool vb, .int .i64 gp, .int .i64 gq, .sl 3 t m y] true false, .arr (.prod (.prod (.int .i64) (.prod (.prod (.int .i64) (.int .i64)) (.prod (.int .i64) (.int .i64)))) (.prod (.prod (.int .i64) (.int .i64)) (.prod (.prod (.int .i64) (.int .i64)) (.prod (.prod (.int .i64) (.int .i64)) (.prod (.prod (.int .i64) (.int .i64)) (.prod (.int .i64) (.int .i64))))))) L sz wR, .arr (.prod (.int .i64) (.int .i64)) l 2 wr, .arr (.prod .str (.prod (.prod (.int .i64) (.int .i64)) (.prod (.int .i64) (.int .i64)))) T 5 wT] => ⟨(∃ fr : FrT × FrT × FrT × FrT × FrT, L[j]? = some (c, fr)) ∧ (((s + n ≤ l.length ∧ n ≤ 1048576) ∧ t + m ≤ T.length ∧ m ≤ 1048576) ∧ bnB up uq vp gp gq (seg l s n) (seg T t m) = true ∧ shB m c = true), .tup [.agg [.int .i64 (tkV (taE (up, uq) (seg l s n) vp vb (gp, gq) (seg T t m) c)).1.1, .int .i64 (tkV (taE (up, uq) (seg l s n) vp vb (gp, gq) (seg T t m) c)).1.2.1.1, .int .i64 (tkV (taE (up, uq) (seg l s n) vp vb (gp, gq) (seg T t m) c)).1.2.1.2, .int .i64 (tkV (taE (up, uq) (seg l s n) vp vb (gp, gq) (seg T t m) c)).1.2.2.1, .int .i64 (tkV (taE (up, uq) (seg l s n) vp vb (gp, gq) (seg T t m) c)).1.2.2.2, .int .i64 (tkV (taE (up, uq) (seg l s n) vp vb (gp, gq) (seg T t m) c)).2.1.1, .int .i64 (tkV (taE (up, uq) (seg l s n) vp vb (gp, gq) (seg T t m) c)).2.1.2, .int .i64 (tkV (taE (up, uq) (seg l s n) vp vb (gp, gq) (seg T t m) c)).2.2.1.1, .int .i64 (tkV (taE (up, uq) (seg l s n) vp vb (gp, gq) (seg T t m) c)).2.2.1.2, .int .i64 (tkV (taE (up, uq) (seg l s n) vp vb (gp, gq) (seg T t m) c)).2.2.2.1.1, .int .i64 (tkV (taE (up, uq) (seg l s n) vp vb (gp, gq) (seg T t m) c)).2.2.2.1.2, .int .i64 (tkV (taE (up, uq) (seg l s n) vp vb (gp, gq) (seg T t m) c)).2.2.2.2.1.1, .int .i64 (tkV (taE (up, uq) (seg l s n) vp vb (gp, gq) (seg T t m) c)).2.2.2.2.1.2, .int .i64 (tkV (taE (up, uq) (seg l s n) vp vb (gp, gq) (seg T t m) c)).2.2.2.2.2.1, .int .i64 (tkV (taE (up, uq) (seg l s n) vp vb (gp, gq) (seg T t m) c)).2.2.2.2.2.2], .int .i64 (eC (taE (up, uq) (seg l s n) vp vb (gp, gq) (seg T t m) c))], [.box [.int .i64 up, .int .i64 uq, .sl 2 s n x, .int .i64 vp, .bool vb, .int .i64 gp, .int .i64 gq, .sl 3 t m y] true false, .arr (.prod (.prod (.int .i64) (.prod (.prod (.int .i64) (.int .i64)) (.prod (.int .i64) (.int .i64)))) (.prod (.prod (.int .i64) (.int .i64)) (.prod (.prod (.int .i64) (.int .i64)) (.prod (.prod (.int .i64) (.int .i64)) (.prod (.prod (.int .i64) (.int .i64)) (.prod (.int .i64) (.int .i64))))))) L sz wR, .arr (.prod (.int .i64) (.int .i64)) l 2 wr, .arr (.prod .str (.prod (.prod (.int .i64) (.int .i64)) (.prod (.int .i64) (.int .i64)))) T 5 wT]⟩
  | _, _ => noSpec
attribute [local irreducible] endsE lnT opT bnB shB taE in
set_option maxHeartbeats 3200000 in
theorem ok_l07TakeR (c : ShT) : SpecOk Tryz.prog 35 (s_l07TakeR c) := by
  intro args S h; unfold s_l07TakeR at h ⊢; (split at h <;> first | exact False.elim h | skip)
  dsimp only at h ⊢
  rename_i j up uq s n x vp vb gp gq t m y L sz wR l wr T wT
  obtain ⟨⟨fr, hLj⟩, h⟩ := h
  have hq := h
  rcases ta_c (up, uq) (seg l s n) vp vb (gp, gq) (seg T t m) c with ⟨k, hk, hr, hE⟩ | ⟨d1, d2, hr, hcc⟩
  · rw [hE]
    have hcn : decide (k ≠ 0) = true := decide_eq_true hk
    refine funW tabOk (E := [(63, (s_l07Read0R c k))]) ⟨(ok_l07Read0R c k), trivial⟩ [] (k := 4) (fn := Tryz.f35) rfl rfl rfl rfl rfl rfl ?_
    (repeat' ((try (conv => whnf)); first | (with_reducible first | refine And.intro ?_ ?_ | refine WX.of ?_) | exact zc | ((with_reducible refine VC.mk ?_); exact zw) | with_reducible refine atL_p hLj ?_ | ((with_reducible refine splitT_of ?_ ?_); (focus (simp only [hcn, Bool.not_true, Bool.not_false, decide_true, decide_false]; done))) | ((with_reducible refine splitF_of ?_ ?_); (focus (simp only [hcn, Bool.not_true, Bool.not_false, decide_true, decide_false]; done))) | ((with_reducible refine VC.mk ?_); exact ⟨hq, hr⟩) | ((with_reducible refine VC.mk ?_); exact ⟨⟨fr, hLj⟩, ⟨hq, hr⟩⟩) | (with_reducible first | refine splitT ?_ | refine splitF ?_) | ((with_reducible refine splitM.mk (fun hsm => ?_) (fun hsm => ?_)) <;> (try exact zx)) | ((with_reducible refine splitB.mk (fun h => ?_) (fun h => ?_)) <;> (try simp only [zs, ne_eq] at h) <;> (try simp (disch := omega) only [w64] at h) <;> (try exact zx)) | (with_reducible intro hz; (try exact absurd hz (Nat.succ_ne_zero _)))))
  · have hf := ends_f hr
    have hf1 := smF_ok hf.1
    have hf2 := smF_ok hf.2
    refine funW tabOk (E := [(63, (s_l07Read1R c d1 d2)), (64, (s_l07LengthR c)), (65, (s_l07OpenR c))]) ⟨(ok_l07Read1R c d1 d2), (ok_l07LengthR c), (ok_l07OpenR c), trivial⟩ [] (k := 4) (fn := Tryz.f35) rfl rfl rfl rfl rfl rfl ?_
    (repeat' ((try (conv => whnf)); first | (with_reducible first | refine And.intro ?_ ?_ | refine WX.of ?_) | exact zc | ((with_reducible refine VC.mk ?_); exact zw) | with_reducible refine atL_p hLj ?_ | ((with_reducible refine VC.mk ?_); exact ⟨hq, hr⟩) | ((with_reducible refine VC.mk ?_); exact ⟨⟨fr, hLj⟩, ⟨hq, hr⟩⟩) | ((with_reducible refine VC.mk ?_); exact ⟨hq.1.2, hq.2.1, hq.2.2, hf1, hf2⟩) | ((with_reducible refine VC.mk ?_); exact ⟨⟨fr, hLj⟩, ⟨hq.1.2, hq.2.1, hq.2.2, hf1, hf2⟩⟩) | ((with_reducible refine VC.mk ?_); exact ⟨hq.1, hq.2.1, hq.2.2, hf1, hf2⟩) | ((with_reducible refine VC.mk ?_); exact ⟨⟨fr, hLj⟩, ⟨hq.1, hq.2.1, hq.2.2, hf1, hf2⟩⟩) | ((with_reducible refine splitO (by first  |  exact okO_sb _ _  |  exact okO_mu _ _  |  exact okO_ad _ _  |  exact okO_dv _ _  |  exact okO_bind _ _ fun _ => okO_ad _ _  |  exact okO_ln2 _ _ _ _ _) (fun h => ?_) (fun a b h hs => ?_)) <;> (try rw [h]) <;> (try simp only [zv_s] at h) <;> (try dsimp only at h)) | ((with_reducible refine splitOS (fun h => ?_) (fun a b h => ?_)) <;> (try rw [h])) | (with_reducible first | refine splitT ?_ | refine splitF ?_) | ((with_reducible refine splitM.mk (fun hsm => ?_) (fun hsm => ?_)) <;> (try exact zx)) | ((with_reducible refine splitB.mk (fun h => ?_) (fun h => ?_)) <;> (try simp only [zs, ne_eq] at h) <;> (try simp (disch := omega) only [w64] at h) <;> (try exact zx)) | (with_reducible intro hz; (try exact absurd hz (Nat.succ_ne_zero _)))))
    all_goals refine ⟨?_⟩
    · rcases hcc with ⟨_, hE⟩ | ⟨len, hl, _⟩
      · rw [hE]; rfl
      · rw [hl] at h; cases h
    · rename_i hl
      rcases hcc with ⟨hl2, _⟩ | ⟨len, hl2, hcc⟩
      · rw [hl2] at hl; cases hl
      · rcases hcc with ⟨_, hE⟩ | ⟨a, b, ho, _⟩
        · rw [hE]; rfl
        · rw [ho] at h; cases h
    · rename_i hl
      rcases hcc with ⟨hl2, _⟩ | ⟨len, hl2, hcc⟩
      · rw [hl2] at hl; cases hl
      · rcases hcc with ⟨ho, _⟩ | ⟨a, b, ho, hE⟩
        · rw [ho] at h; cases h
        · rw [hl2] at hl; cases hl
          rw [ho] at h; cases h
          rw [hE]; rfl
end Go.Proofs.YtbmejhabgoimeaaGreat.Eng
set_option linter.unusedVariables false
set_option linter.unusedSimpArgs false
namespace Go.Proofs.YtbmejhabgoimeaaGreat.Eng
open Go Go.RowKit
set_option maxRecDepth 100000
/-- A report is accepted. -/
def accB (u : FrT) (E : List FrT) (vp : Int) (vb : Bool) (g : FrT) (T : List ThT) (r : RpT) : Bool := match tkE (shB T.length r.1) u E vp vb g T r.1 with | .ok own => decide (own = r) | .error _ => false
theorem acc_1 {u : FrT} {E : List FrT} {vp : Int} {vb : Bool} {g : FrT} {T : List ThT} {r own : RpT} {ok : Bool} (hk : ok = shB T.length r.1) (h : tkE ok u E vp vb g T r.1 = .ok own) : accB u E vp vb g T r = decide (own = r) := by unfold accB; rw [← hk, h]
theorem acc_0 {u : FrT} {E : List FrT} {vp : Int} {vb : Bool} {g : FrT} {T : List ThT} {r : RpT} {k : Int} {ok : Bool} (hk : ok = shB T.length r.1) (h : tkE ok u E vp vb g T r.1 = .error k) : accB u E vp vb g T r = false := by unfold accB; rw [← hk, h]
theorem enz_take {ok : Bool} {u : FrT} {E : List FrT} {vp : Int} {vb : Bool} {g : FrT} {T : List ThT} {c : ShT} : ENZ (tkE ok u E vp vb g T c) := by
  unfold tkE
  split
  · unfold taE
    refine enz_bind enz_ends fun _ => enz_bind (enz_ofO _) fun _ => enz_bind ?_ fun _ => enz_ok _
    split
    · exact enz_ok _
    · exact enz_er (by decide)
  · exact enz_er (by decide)
def s_tk1 (own : RpT) : Spec := fun args S => match args, S with
  | [.agg [.int .i64 up, .int .i64 uq, .sl 0 s n x, .int .i64 vp, .bool vb, .int .i64 gp, .int .i64 gq, .sl 1 t m y], .agg [.int .i64 i, .int .i64 wp, .int .i64 wq, .int .i64 sp, .int .i64 sq]], [.arr (.prod (.int .i64) (.int .i64)) l 2 wr, .arr (.prod .str (.prod (.prod (.int .i64) (.int .i64)) (.prod (.int .i64) (.int .i64)))) T 5 wT] => ⟨((s + n ≤ l.length ∧ n ≤ 1048576) ∧ (t + m ≤ T.length ∧ m ≤ 1048576) ∧ ∀ (j : Nat) (a : ThT), T[j]? = some a → a.1.length < 4611686018427387904) ∧ tkE (bnB up uq vp gp gq (seg l s n) (seg T t m) && shB m (i, (wp, wq), sp, sq)) (up, uq) (seg l s n) vp vb (gp, gq) (seg T t m) (i, (wp, wq), sp, sq) = .ok own, .tup [.agg [.int .i64 own.1.1, .int .i64 own.1.2.1.1, .int .i64 own.1.2.1.2, .int .i64 own.1.2.2.1, .int .i64 own.1.2.2.2, .int .i64 own.2.1.1, .int .i64 own.2.1.2, .int .i64 own.2.2.1.1, .int .i64 own.2.2.1.2, .int .i64 own.2.2.2.1.1, .int .i64 own.2.2.2.1.2, .int .i64 own.2.2.2.2.1.1, .int .i64 own.2.2.2.2.1.2, .int .i64 own.2.2.2.2.2.1, .int .i64 own.2.2.2.2.2.2], .int .i64 0], [.arr (.prod (.int .i64) (.int .i64)) l 2 wr, .arr (.prod .str (.prod (.prod (.int .i64) (.int .i64)) (.prod (.int .i64) (.int .i64)))) T 5 wT]⟩
  | _, _ => noSpec
theorem ok_tk1 (own : RpT) : SpecOk Tryz.prog 13 (s_tk1 own) := by
  intro args S h; unfold s_tk1 at h ⊢; (split at h <;> first | exact False.elim h | skip)
  dsimp only at h ⊢
  rename_i up uq s n x vp vb gp gq t m y i wp wq sp sq l wr T wT
  have h2 := ok_TakeReportI [.agg [.int .i64 up, .int .i64 uq, .sl 0 s n x, .int .i64 vp, .bool vb, .int .i64 gp, .int .i64 gq, .sl 1 t m y], .agg [.int .i64 i, .int .i64 wp, .int .i64 wq, .int .i64 sp, .int .i64 sq]] [.arr (.prod (.int .i64) (.int .i64)) l 2 wr, .arr (.prod .str (.prod (.prod (.int .i64) (.int .i64)) (.prod (.int .i64) (.int .i64)))) T 5 wT] h.1
  simp only [s_take, h.2, tkV, eV, eC] at h2
  exact h2
def s_tk0 (k : Int) : Spec := fun args S => match args, S with
  | [.agg [.int .i64 up, .int .i64 uq, .sl 0 s n x, .int .i64 vp, .bool vb, .int .i64 gp, .int .i64 gq, .sl 1 t m y], .agg [.int .i64 i, .int .i64 wp, .int .i64 wq, .int .i64 sp, .int .i64 sq]], [.arr (.prod (.int .i64) (.int .i64)) l 2 wr, .arr (.prod .str (.prod (.prod (.int .i64) (.int .i64)) (.prod (.int .i64) (.int .i64)))) T 5 wT] => ⟨((s + n ≤ l.length ∧ n ≤ 1048576) ∧ (t + m ≤ T.length ∧ m ≤ 1048576) ∧ ∀ (j : Nat) (a : ThT), T[j]? = some a → a.1.length < 4611686018427387904) ∧ tkE (bnB up uq vp gp gq (seg l s n) (seg T t m) && shB m (i, (wp, wq), sp, sq)) (up, uq) (seg l s n) vp vb (gp, gq) (seg T t m) (i, (wp, wq), sp, sq) = .error k, .tup [.agg [.int .i64 rp0.1.1, .int .i64 rp0.1.2.1.1, .int .i64 rp0.1.2.1.2, .int .i64 rp0.1.2.2.1, .int .i64 rp0.1.2.2.2, .int .i64 rp0.2.1.1, .int .i64 rp0.2.1.2, .int .i64 rp0.2.2.1.1, .int .i64 rp0.2.2.1.2, .int .i64 rp0.2.2.2.1.1, .int .i64 rp0.2.2.2.1.2, .int .i64 rp0.2.2.2.2.1.1, .int .i64 rp0.2.2.2.2.1.2, .int .i64 rp0.2.2.2.2.2.1, .int .i64 rp0.2.2.2.2.2.2], .int .i64 k], [.arr (.prod (.int .i64) (.int .i64)) l 2 wr, .arr (.prod .str (.prod (.prod (.int .i64) (.int .i64)) (.prod (.int .i64) (.int .i64)))) T 5 wT]⟩
  | _, _ => noSpec
theorem ok_tk0 (k : Int) : SpecOk Tryz.prog 13 (s_tk0 k) := by
  intro args S h; unfold s_tk0 at h ⊢; (split at h <;> first | exact False.elim h | skip)
  dsimp only at h ⊢
  rename_i up uq s n x vp vb gp gq t m y i wp wq sp sq l wr T wT
  have h2 := ok_TakeReportI [.agg [.int .i64 up, .int .i64 uq, .sl 0 s n x, .int .i64 vp, .bool vb, .int .i64 gp, .int .i64 gq, .sl 1 t m y], .agg [.int .i64 i, .int .i64 wp, .int .i64 wq, .int .i64 sp, .int .i64 sq]] [.arr (.prod (.int .i64) (.int .i64)) l 2 wr, .arr (.prod .str (.prod (.prod (.int .i64) (.int .i64)) (.prod (.int .i64) (.int .i64)))) T 5 wT] h.1
  simp only [s_take, h.2, tkV, eV, eC] at h2
  exact h2
def s_chk : Spec := fun args S => match args, S with
  | [.agg [.int .i64 up, .int .i64 uq, .sl 0 s n x, .int .i64 vp, .bool vb, .int .i64 gp, .int .i64 gq, .sl 1 t m y], .agg [.int .i64 i, .int .i64 wp, .int .i64 wq, .int .i64 sp, .int .i64 sq, .int .i64 fp, .int .i64 fq, .int .i64 kp, .int .i64 kq, .int .i64 lp, .int .i64 lq, .int .i64 ap, .int .i64 aq, .int .i64 zp, .int .i64 zq]], [.arr (.prod (.int .i64) (.int .i64)) l 2 wr, .arr (.prod .str (.prod (.prod (.int .i64) (.int .i64)) (.prod (.int .i64) (.int .i64)))) T 5 wT] => ⟨(s + n ≤ l.length ∧ n ≤ 1048576) ∧ (t + m ≤ T.length ∧ m ≤ 1048576) ∧ ∀ (j : Nat) (a : ThT), T[j]? = some a → a.1.length < 4611686018427387904, .tup [.bool (bnB up uq vp gp gq (seg l s n) (seg T t m) && accB (up, uq) (seg l s n) vp vb (gp, gq) (seg T t m) ((i, (wp, wq), sp, sq), (fp, fq), (kp, kq), (lp, lq), (ap, aq), zp, zq)), .int .i64 (if bnB up uq vp gp gq (seg l s n) (seg T t m) = true then 0 else 1)], [.arr (.prod (.int .i64) (.int .i64)) l 2 wr, .arr (.prod .str (.prod (.prod (.int .i64) (.int .i64)) (.prod (.int .i64) (.int .i64)))) T 5 wT]⟩
  | _, _ => noSpec
attribute [local irreducible] bnB shB taE in
set_option maxHeartbeats 3200000 in
theorem ok_CheckReportI : SpecOk Tryz.prog 18 s_chk := by
  intro args S h; unfold s_chk at h ⊢; (split at h <;> first | exact False.elim h | skip)
  dsimp only at h ⊢
  rename_i up uq s n x vp vb gp gq t m y i wp wq sp sq fp fq kp kq lp lq ap aq zp zq l wr T wT
  have hq := h
  have hM := seg_len h.2.1.1
  cases hb : bnB up uq vp gp gq (seg l s n) (seg T t m) with
  | false =>
    refine funW tabOk (E := [(50, s_vBench)]) ⟨ok_ValidBenchI, trivial⟩ [] (k := 2) (fn := Tryz.f18) rfl rfl rfl rfl rfl rfl ?_
    (repeat' ((try (conv => whnf)); first | (with_reducible first | refine And.intro ?_ ?_ | refine WX.of ?_) | exact zc | ((with_reducible refine VC.mk ?_); exact zw) | ((with_reducible refine splitT_of ?_ ?_); (focus (simp only [hb, Bool.not_true, Bool.not_false, decide_true, decide_false]; done))) | ((with_reducible refine splitF_of ?_ ?_); (focus (simp only [hb, Bool.not_true, Bool.not_false, decide_true, decide_false]; done))) | ((with_reducible refine VC.mk ?_); exact hq) | (with_reducible first | refine splitT ?_ | refine splitF ?_) | ((with_reducible refine splitM.mk (fun hsm => ?_) (fun hsm => ?_)) <;> (try exact zx)) | ((with_reducible refine splitB.mk (fun h => ?_) (fun h => ?_)) <;> (try simp only [zs, ne_eq] at h) <;> (try simp (disch := omega) only [w64] at h) <;> (try exact zx)) | (with_reducible intro hz; (try exact absurd hz (Nat.succ_ne_zero _)))))
  | true =>
    have hk : (bnB up uq vp gp gq (seg l s n) (seg T t m) && shB m (i, (wp, wq), sp, sq)) = shB (seg T t m).length (i, (wp, wq), sp, sq) := by rw [hb, hM]; rfl
    cases hR : tkE (bnB up uq vp gp gq (seg l s n) (seg T t m) && shB m (i, (wp, wq), sp, sq)) (up, uq) (seg l s n) vp vb (gp, gq) (seg T t m) (i, (wp, wq), sp, sq) with
    | error k =>
      rw [acc_0 (r := ((i, (wp, wq), sp, sq), (fp, fq), (kp, kq), (lp, lq), (ap, aq), zp, zq)) hk hR]
      have hcn : decide (k = 0) = false := decide_eq_false (enz_take _ hR)
      refine funW tabOk (E := [(50, s_vBench), (13, (s_tk0 k))]) ⟨ok_ValidBenchI, (ok_tk0 k), trivial⟩ [] (k := 2) (fn := Tryz.f18) rfl rfl rfl rfl rfl rfl ?_
      (repeat' ((try (conv => whnf)); first | (with_reducible first | refine And.intro ?_ ?_ | refine WX.of ?_) | exact zc | ((with_reducible refine VC.mk ?_); exact zw) | ((with_reducible refine splitT_of ?_ ?_); (focus (simp only [hb, hcn, Bool.not_true, Bool.not_false, decide_true, decide_false]; done))) | ((with_reducible refine splitF_of ?_ ?_); (focus (simp only [hb, hcn, Bool.not_true, Bool.not_false, decide_true, decide_false]; done))) | ((with_reducible refine VC.mk ?_); exact hq) | ((with_reducible refine VC.mk ?_); exact ⟨hq, hR⟩) | (with_reducible first | refine splitT ?_ | refine splitF ?_) | ((with_reducible refine splitM.mk (fun hsm => ?_) (fun hsm => ?_)) <;> (try exact zx)) | ((with_reducible refine splitB.mk (fun h => ?_) (fun h => ?_)) <;> (try simp only [zs, ne_eq] at h) <;> (try simp (disch := omega) only [w64] at h) <;> (try exact zx)) | (with_reducible intro hz; (try exact absurd hz (Nat.succ_ne_zero _)))))
    | ok own =>
      rw [acc_1 (r := ((i, (wp, wq), sp, sq), (fp, fq), (kp, kq), (lp, lq), (ap, aq), zp, zq)) hk hR]
      obtain ⟨⟨i', ⟨wp', wq'⟩, sp', sq'⟩, ⟨fp', fq'⟩, ⟨kp', kq'⟩, ⟨lp', lq'⟩, ⟨ap', aq'⟩, zp', zq'⟩ := own
      refine funW tabOk (E := [(50, s_vBench), (13, (s_tk1 ((i', (wp', wq'), sp', sq'), (fp', fq'), (kp', kq'), (lp', lq'), (ap', aq'), zp', zq')))]) ⟨ok_ValidBenchI, (ok_tk1 ((i', (wp', wq'), sp', sq'), (fp', fq'), (kp', kq'), (lp', lq'), (ap', aq'), zp', zq')), trivial⟩ [] (k := 2) (fn := Tryz.f18) rfl rfl rfl rfl rfl rfl ?_
      (repeat' ((try (conv => whnf)); first | (with_reducible first | refine And.intro ?_ ?_ | refine WX.of ?_) | exact zc | ((with_reducible refine VC.mk ?_); exact zw) | ((with_reducible refine splitT_of ?_ ?_); (focus (simp only [hb, Bool.not_true, Bool.not_false, decide_true, decide_false]; done))) | ((with_reducible refine splitF_of ?_ ?_); (focus (simp only [hb, Bool.not_true, Bool.not_false, decide_true, decide_false]; done))) | ((with_reducible refine VC.mk ?_); exact hq) | ((with_reducible refine VC.mk ?_); exact ⟨hq, hR⟩) | (with_reducible first | refine splitT ?_ | refine splitF ?_) | ((with_reducible refine splitM.mk (fun hsm => ?_) (fun hsm => ?_)) <;> (try exact zx)) | ((with_reducible refine splitB.mk (fun h => ?_) (fun h => ?_)) <;> (try simp only [zs, ne_eq] at h) <;> (try simp (disch := omega) only [w64] at h) <;> (try exact zx)) | (with_reducible intro hz; (try exact absurd hz (Nat.succ_ne_zero _)))))
      all_goals (refine ⟨?_⟩; dsimp only; simp only [Prod.mk.injEq, Bool.decide_and, Bool.and_assoc, Bool.true_and, if_true])
def s_acc (r : RpT) : Spec := fun args S => match args, S with
  | [.ptr 0 0 0, .ptr 1 j 0], [.box [.int .i64 up, .int .i64 uq, .sl 2 s n x, .int .i64 vp, .bool vb, .int .i64 gp, .int .i64 gq, .sl 3 t m y] true false, .arr (.prod (.prod (.int .i64) (.prod (.prod (.int .i64) (.int .i64)) (.prod (.int .i64) (.int .i64)))) (.prod (.prod (.int .i64) (.int .i64)) (.prod (.prod (.int .i64) (.int .i64)) (.prod (.prod (.int .i64) (.int .i64)) (.prod (.prod (.int .i64) (.int .i64)) (.prod (.int .i64) (.int .i64))))))) L sz wR, .arr (.prod (.int .i64) (.int .i64)) l 2 wr, .arr (.prod .str (.prod (.prod (.int .i64) (.int .i64)) (.prod (.int .i64) (.int .i64)))) T 5 wT] => ⟨((s + n ≤ l.length ∧ n ≤ 1048576) ∧ t + m ≤ T.length ∧ m ≤ 1048576) ∧ bnB up uq vp gp gq (seg l s n) (seg T t m) = true ∧ L[j]? = some r, .bool (accB (up, uq) (seg l s n) vp vb (gp, gq) (seg T t m) r), [.box [.int .i64 up, .int .i64 uq, .sl 2 s n x, .int .i64 vp, .bool vb, .int .i64 gp, .int .i64 gq, .sl 3 t m y] true false, .arr (.prod (.prod (.int .i64) (.prod (.prod (.int .i64) (.int .i64)) (.prod (.int .i64) (.int .i64)))) (.prod (.prod (.int .i64) (.int .i64)) (.prod (.prod (.int .i64) (.int .i64)) (.prod (.prod (.int .i64) (.int .i64)) (.prod (.prod (.int .i64) (.int .i64)) (.prod (.int .i64) (.int .i64))))))) L sz wR, .arr (.prod (.int .i64) (.int .i64)) l 2 wr, .arr (.prod .str (.prod (.prod (.int .i64) (.int .i64)) (.prod (.int .i64) (.int .i64)))) T 5 wT]⟩
  | _, _ => noSpec
attribute [local irreducible] bnB shB taE in
set_option maxHeartbeats 3200000 in
theorem ok_l07Accepted (r : RpT) : SpecOk Tryz.prog 48 (s_acc r) := by
  intro args S h; unfold s_acc at h ⊢; (split at h <;> first | exact False.elim h | skip)
  dsimp only at h ⊢
  rename_i j up uq s n x vp vb gp gq t m y L sz wR l wr T wT
  obtain ⟨h1, hb, hLj⟩ := h
  have hM := seg_len h1.2.1
  obtain ⟨⟨i, ⟨wp, wq⟩, sp, sq⟩, ⟨fp, fq⟩, ⟨kp, kq⟩, ⟨lp, lq⟩, ⟨ap, aq⟩, zp, zq⟩ := r
  have hk : shB m (i, (wp, wq), sp, sq) = shB (seg T t m).length (i, (wp, wq), sp, sq) := by rw [hM]
  cases hs : shB m (i, (wp, wq), sp, sq) with
  | false =>
    rw [acc_0 (k := 1) hk (by unfold tkE; rw [hs]; rfl)]
    refine funW tabOk (E := [(62, (s_l07ShotR (i, (wp, wq), sp, sq)))]) ⟨(ok_l07ShotR (i, (wp, wq), sp, sq)), trivial⟩ [] (k := 4) (fn := Tryz.f48) rfl rfl rfl rfl rfl rfl ?_
    (repeat' ((try (conv => whnf)); first | (with_reducible first | refine And.intro ?_ ?_ | refine WX.of ?_) | exact zc | ((with_reducible refine VC.mk ?_); exact zw) | ((with_reducible refine splitT_of ?_ ?_); (focus (simp only [hs, Bool.not_true, Bool.not_false, decide_true, decide_false]; done))) | ((with_reducible refine splitF_of ?_ ?_); (focus (simp only [hs, Bool.not_true, Bool.not_false, decide_true, decide_false]; done))) | ((with_reducible refine VC.mk ?_); exact ⟨⟨_, hLj⟩, h1.2.2⟩) | (with_reducible first | refine splitT ?_ | refine splitF ?_) | ((with_reducible refine splitM.mk (fun hsm => ?_) (fun hsm => ?_)) <;> (try exact zx)) | ((with_reducible refine splitB.mk (fun h => ?_) (fun h => ?_)) <;> (try simp only [zs, ne_eq] at h) <;> (try simp (disch := omega) only [w64] at h) <;> (try exact zx)) | (with_reducible intro hz; (try exact absurd hz (Nat.succ_ne_zero _)))))
  | true =>
    cases hR : taE (up, uq) (seg l s n) vp vb (gp, gq) (seg T t m) (i, (wp, wq), sp, sq) with
    | error k =>
      have hR2 : tkE (shB m (i, (wp, wq), sp, sq)) (up, uq) (seg l s n) vp vb (gp, gq) (seg T t m) (i, (wp, wq), sp, sq) = .error k := by rw [hs]; exact hR
      rw [acc_0 (r := ((i, (wp, wq), sp, sq), (fp, fq), (kp, kq), (lp, lq), (ap, aq), zp, zq)) hk hR2]
      have hcn : decide (eC (taE (up, uq) (seg l s n) vp vb (gp, gq) (seg T t m) (i, (wp, wq), sp, sq)) = 0) = false := by rw [hR]; exact decide_eq_false (enz_take _ hR2)
      refine funW tabOk (E := [(62, (s_l07ShotR (i, (wp, wq), sp, sq))), (35, (s_l07TakeR (i, (wp, wq), sp, sq)))]) ⟨(ok_l07ShotR (i, (wp, wq), sp, sq)), (ok_l07TakeR (i, (wp, wq), sp, sq)), trivial⟩ [] (k := 4) (fn := Tryz.f48) rfl rfl rfl rfl rfl rfl ?_
      (repeat' ((try (conv => whnf)); first | (with_reducible first | refine And.intro ?_ ?_ | refine WX.of ?_) | exact zc | ((with_reducible refine VC.mk ?_); exact zw) | ((with_reducible refine splitT_of ?_ ?_); (focus (simp only [hs, hcn, Bool.not_true, Bool.not_false, decide_true, decide_false]; done))) | ((with_reducible refine splitF_of ?_ ?_); (focus (simp only [hs, hcn, Bool.not_true, Bool.not_false, decide_true, decide_false]; done))) | ((with_reducible refine VC.mk ?_); exact ⟨⟨_, hLj⟩, h1.2.2⟩) | ((with_reducible refine VC.mk ?_); exact ⟨⟨_, hLj⟩, h1, hb, hs⟩) | with_reducible refine atL_p hLj ?_ | (with_reducible first | refine splitT ?_ | refine splitF ?_) | ((with_reducible refine splitM.mk (fun hsm => ?_) (fun hsm => ?_)) <;> (try exact zx)) | ((with_reducible refine splitB.mk (fun h => ?_) (fun h => ?_)) <;> (try simp only [zs, ne_eq] at h) <;> (try simp (disch := omega) only [w64] at h) <;> (try exact zx)) | (with_reducible intro hz; (try exact absurd hz (Nat.succ_ne_zero _)))))
    | ok own =>
      have hR2 : tkE (shB m (i, (wp, wq), sp, sq)) (up, uq) (seg l s n) vp vb (gp, gq) (seg T t m) (i, (wp, wq), sp, sq) = .ok own := by rw [hs]; exact hR
      rw [acc_1 (r := ((i, (wp, wq), sp, sq), (fp, fq), (kp, kq), (lp, lq), (ap, aq), zp, zq)) hk hR2]
      have hcn : decide (eC (taE (up, uq) (seg l s n) vp vb (gp, gq) (seg T t m) (i, (wp, wq), sp, sq)) = 0) = true := by rw [hR]; rfl
      obtain ⟨⟨i', ⟨wp', wq'⟩, sp', sq'⟩, ⟨fp', fq'⟩, ⟨kp', kq'⟩, ⟨lp', lq'⟩, ⟨ap', aq'⟩, zp', zq'⟩ := own
      refine funW tabOk (E := [(62, (s_l07ShotR (i, (wp, wq), sp, sq))), (35, (s_l07TakeR (i, (wp, wq), sp, sq)))]) ⟨(ok_l07ShotR (i, (wp, wq), sp, sq)), (ok_l07TakeR (i, (wp, wq), sp, sq)), trivial⟩ [] (k := 4) (fn := Tryz.f48) rfl rfl rfl rfl rfl rfl ?_
      (repeat' ((try (conv => whnf)); first | (with_reducible first | refine And.intro ?_ ?_ | refine WX.of ?_) | exact zc | ((with_reducible refine VC.mk ?_); exact zw) | ((with_reducible refine splitT_of ?_ ?_); (focus (simp only [hs, hcn, Bool.not_true, Bool.not_false, decide_true, decide_false]; done))) | ((with_reducible refine splitF_of ?_ ?_); (focus (simp only [hs, hcn, Bool.not_true, Bool.not_false, decide_true, decide_false]; done))) | ((with_reducible refine VC.mk ?_); exact ⟨⟨_, hLj⟩, h1.2.2⟩) | ((with_reducible refine VC.mk ?_); exact ⟨⟨_, hLj⟩, h1, hb, hs⟩) | with_reducible refine atL_p hLj ?_ | (with_reducible first | refine splitT ?_ | refine splitF ?_) | ((with_reducible refine splitM.mk (fun hsm => ?_) (fun hsm => ?_)) <;> (try exact zx)) | ((with_reducible refine splitB.mk (fun h => ?_) (fun h => ?_)) <;> (try simp only [zs, ne_eq] at h) <;> (try simp (disch := omega) only [w64] at h) <;> (try exact zx)) | (with_reducible intro hz; (try exact absurd hz (Nat.succ_ne_zero _)))))
      all_goals (refine ⟨?_⟩; rw [hR]; dsimp only [tkV, eV]; simp only [Prod.mk.injEq, Bool.decide_and, Bool.and_assoc, Bool.true_and, if_true]; (try rfl))
theorem ok_CheckReportS : SpecOk Tryz.prog 16 s_chk := by
  intro args S h; unfold s_chk at h ⊢; (split at h <;> first | exact False.elim h | skip)
  dsimp only at h ⊢
  rename_i up uq s n x vp vb gp gq t m y i wp wq sp sq fp fq kp kq lp lq ap aq zp zq l wr T wT
  have hq := h
  cases hb : bnB up uq vp gp gq (seg l s n) (seg T t m) with
  | false =>
    refine funW tabOk (E := [(47, s_l07Ok)]) ⟨ok_l07Ok, trivial⟩ [] (k := 2) (fn := Tryz.f16) rfl rfl rfl rfl rfl rfl ?_
    (repeat' ((try (conv => whnf)); first | (with_reducible first | refine And.intro ?_ ?_ | refine WX.of ?_) | exact zc | ((with_reducible refine VC.mk ?_); exact zw) | ((with_reducible refine splitT_of ?_ ?_); (focus (simp only [hb, Bool.not_true, Bool.not_false, decide_true, decide_false]; done))) | ((with_reducible refine splitF_of ?_ ?_); (focus (simp only [hb, Bool.not_true, Bool.not_false, decide_true, decide_false]; done))) | ((with_reducible refine VC.mk ?_); exact hq) | (with_reducible first | refine splitT ?_ | refine splitF ?_) | ((with_reducible refine splitM.mk (fun hsm => ?_) (fun hsm => ?_)) <;> (try exact zx)) | ((with_reducible refine splitB.mk (fun h => ?_) (fun h => ?_)) <;> (try simp only [zs, ne_eq] at h) <;> (try simp (disch := omega) only [w64] at h) <;> (try exact zx)) | (with_reducible intro hz; (try exact absurd hz (Nat.succ_ne_zero _)))))
  | true =>
    refine funW tabOk (E := [(47, s_l07Ok), (48, (s_acc ((i, (wp, wq), sp, sq), (fp, fq), (kp, kq), (lp, lq), (ap, aq), zp, zq)))]) ⟨ok_l07Ok, (ok_l07Accepted ((i, (wp, wq), sp, sq), (fp, fq), (kp, kq), (lp, lq), (ap, aq), zp, zq)), trivial⟩ [] (k := 2) (fn := Tryz.f16) rfl rfl rfl rfl rfl rfl ?_
    (repeat' ((try (conv => whnf)); first | (with_reducible first | refine And.intro ?_ ?_ | refine WX.of ?_) | exact zc | ((with_reducible refine VC.mk ?_); exact zw) | ((with_reducible refine splitT_of ?_ ?_); (focus (simp only [hb, Bool.not_true, Bool.not_false, decide_true, decide_false]; done))) | ((with_reducible refine splitF_of ?_ ?_); (focus (simp only [hb, Bool.not_true, Bool.not_false, decide_true, decide_false]; done))) | ((with_reducible refine VC.mk ?_); exact hq) | ((with_reducible refine VC.mk ?_); exact ⟨⟨hq.1, hq.2.1⟩, hb, rfl⟩) | (with_reducible first | refine splitT ?_ | refine splitF ?_) | ((with_reducible refine splitM.mk (fun hsm => ?_) (fun hsm => ?_)) <;> (try exact zx)) | ((with_reducible refine splitB.mk (fun h => ?_) (fun h => ?_)) <;> (try simp only [zs, ne_eq] at h) <;> (try simp (disch := omega) only [w64] at h) <;> (try exact zx)) | (with_reducible intro hz; (try exact absurd hz (Nat.succ_ne_zero _)))))
end Go.Proofs.YtbmejhabgoimeaaGreat.Eng
set_option linter.unusedVariables false
set_option linter.unusedSimpArgs false
namespace Go.Proofs.YtbmejhabgoimeaaGreat.Eng
open Go Go.RowKit
set_option maxRecDepth 100000
/-- The first report that is not accepted. -/
def ckI (u : FrT) (E : List FrT) (vp : Int) (vb : Bool) (g : FrT) (T : List ThT) (L : List RpT) : Int := findI (fun r => !accB u E vp vb g T r) L
def ckV (bn : Bool) (k : Nat) (f : Int) : Int := if bn = true then (if 40 < k then 0 else if f < 0 then 0 else f) else 0
def ckC (bn : Bool) (k : Nat) (f : Int) : Int := if bn = true then (if 40 < k then 2 else if f < 0 then 6 else 0) else 1
def s_chks : Spec := fun args S => match args, S with
  | [.agg [.int .i64 up, .int .i64 uq, .sl 0 s n x, .int .i64 vp, .bool vb, .int .i64 gp, .int .i64 gq, .sl 1 t m y], .sl 2 q k z], [.arr (.prod (.int .i64) (.int .i64)) l 2 wr, .arr (.prod .str (.prod (.prod (.int .i64) (.int .i64)) (.prod (.int .i64) (.int .i64)))) T 5 wT, .arr (.prod (.prod (.int .i64) (.prod (.prod (.int .i64) (.int .i64)) (.prod (.int .i64) (.int .i64)))) (.prod (.prod (.int .i64) (.int .i64)) (.prod (.prod (.int .i64) (.int .i64)) (.prod (.prod (.int .i64) (.int .i64)) (.prod (.prod (.int .i64) (.int .i64)) (.prod (.int .i64) (.int .i64))))))) L 15 wL] => ⟨((s + n ≤ l.length ∧ n ≤ 1048576) ∧ (t + m ≤ T.length ∧ m ≤ 1048576) ∧ ∀ (j : Nat) (a : ThT), T[j]? = some a → a.1.length < 4611686018427387904) ∧ q + k ≤ L.length ∧ k ≤ 1048576, .tup [.int .i64 (ckV (bnB up uq vp gp gq (seg l s n) (seg T t m)) k (ckI (up, uq) (seg l s n) vp vb (gp, gq) (seg T t m) (seg L q k))), .int .i64 (ckC (bnB up uq vp gp gq (seg l s n) (seg T t m)) k (ckI (up, uq) (seg l s n) vp vb (gp, gq) (seg T t m) (seg L q k)))], [.arr (.prod (.int .i64) (.int .i64)) l 2 wr, .arr (.prod .str (.prod (.prod (.int .i64) (.int .i64)) (.prod (.int .i64) (.int .i64)))) T 5 wT, .arr (.prod (.prod (.int .i64) (.prod (.prod (.int .i64) (.int .i64)) (.prod (.int .i64) (.int .i64)))) (.prod (.prod (.int .i64) (.int .i64)) (.prod (.prod (.int .i64) (.int .i64)) (.prod (.prod (.int .i64) (.int .i64)) (.prod (.prod (.int .i64) (.int .i64)) (.prod (.int .i64) (.int .i64))))))) L 15 wL]⟩
  | _, _ => noSpec
theorem ckV_i {k i : Nat} (h : ¬ 40 < k) : ckV true k (i : Int) = i := by unfold ckV; rw [if_pos rfl, if_neg h, if_neg (by omega)]
theorem ckC_i {k i : Nat} (h : ¬ 40 < k) : ckC true k (i : Int) = 0 := by unfold ckC; rw [if_pos rfl, if_neg h, if_neg (by omega)]
theorem ckV_n {k : Nat} : ckV true k (-1) = 0 := by unfold ckV; rw [if_pos rfl]; split <;> rfl
theorem ckC_n {k : Nat} (h : ¬ 40 < k) : ckC true k (-1) = 6 := by unfold ckC; rw [if_pos rfl, if_neg h]; rfl
attribute [local irreducible] bnB accB in
set_option maxHeartbeats 3200000 in
theorem ok_CheckReportsI : SpecOk Tryz.prog 22 s_chks := by
  intro args S h; unfold s_chks at h ⊢; (split at h <;> first | exact False.elim h | skip)
  dsimp only at h ⊢
  rename_i up uq s n x vp vb gp gq t m y q k z l wr T wT L wL
  obtain ⟨hq, hk⟩ := h
  have hLk := seg_len hk.1
  cases hb : bnB up uq vp gp gq (seg l s n) (seg T t m) with
  | false =>
    refine funW tabOk (E := [(50, s_vBench)]) ⟨ok_ValidBenchI, trivial⟩ [] (k := 3) (fn := Tryz.f22) rfl rfl rfl rfl rfl rfl ?_
    (repeat' ((try (conv => whnf)); first | (with_reducible first | refine And.intro ?_ ?_ | refine WX.of ?_) | exact zc | ((with_reducible refine VC.mk ?_); exact zw) | ((with_reducible refine splitT_of ?_ ?_); (focus (simp only [hb, Bool.not_true, Bool.not_false, decide_true, decide_false]; done))) | ((with_reducible refine splitF_of ?_ ?_); (focus (simp only [hb, Bool.not_true, Bool.not_false, decide_true, decide_false]; done))) | ((with_reducible refine VC.mk ?_); exact hq) | (with_reducible first | refine splitT ?_ | refine splitF ?_) | ((with_reducible refine splitM.mk (fun hsm => ?_) (fun hsm => ?_)) <;> (try exact zx)) | ((with_reducible refine splitB.mk (fun h => ?_) (fun h => ?_)) <;> (try simp only [zs, ne_eq] at h) <;> (try simp (disch := omega) only [w64] at h) <;> (try exact zx)) | (with_reducible intro hz; (try exact absurd hz (Nat.succ_ne_zero _)))))
  | true =>
    refine funW tabOk (E := [(50, s_vBench), (18, s_chk)]) ⟨ok_ValidBenchI, ok_CheckReportI, trivial⟩ [] (k := 3) (fn := Tryz.f22) rfl rfl rfl rfl rfl rfl ?_
    (repeat' ((try (conv => whnf)); first | (with_reducible first | refine And.intro ?_ ?_ | refine WX.of ?_) | exact zc | ((with_reducible refine VC.mk ?_); exact zw) | ((with_reducible refine splitT_of ?_ ?_); (focus (simp only [hb, Bool.not_true, Bool.not_false, decide_true, decide_false]; done))) | ((with_reducible refine splitF_of ?_ ?_); (focus (simp only [hb, Bool.not_true, Bool.not_false, decide_true, decide_false]; done))) | ((with_reducible refine VC.mk ?_); exact hq) | (with_reducible first | refine splitT ?_ | refine splitF ?_) | ((with_reducible refine splitM.mk (fun hsm => ?_) (fun hsm => ?_)) <;> (try exact zx)) | ((with_reducible refine splitB.mk (fun h => ?_) (fun h => ?_)) <;> (try simp only [zs, ne_eq] at h) <;> (try simp (disch := omega) only [w64] at h) <;> (try exact zx)) | (with_reducible intro hz; (try exact absurd hz (Nat.succ_ne_zero _)))))
    · exact ⟨by unfold ckV ckC; rw [if_pos rfl, if_pos rfl, if_pos (by omega), if_pos (by omega)]⟩
    · have hk40 : ¬ 40 < k := by omega
      refine loopW tabOk (E := [(50, s_vBench), (18, s_chk)]) ⟨ok_ValidBenchI, ok_CheckReportI, trivial⟩ [] (σ := Nat) (fun i => [(2, .ptr 3 0 0), (18, .sl 2 q k z), (19, .int .i64 k), (20, .int .i64 i)]) (fun i => [.arr (.prod (.int .i64) (.int .i64)) l 2 wr, .arr (.prod .str (.prod (.prod (.int .i64) (.int .i64)) (.prod (.int .i64) (.int .i64)))) T 5 wT, .arr (.prod (.prod (.int .i64) (.prod (.prod (.int .i64) (.int .i64)) (.prod (.int .i64) (.int .i64)))) (.prod (.prod (.int .i64) (.int .i64)) (.prod (.prod (.int .i64) (.int .i64)) (.prod (.prod (.int .i64) (.int .i64)) (.prod (.prod (.int .i64) (.int .i64)) (.prod (.int .i64) (.int .i64))))))) L 15 wL, .box [.int .i64 up, .int .i64 uq, .sl 0 s n x, .int .i64 vp, .bool vb, .int .i64 gp, .int .i64 gq, .sl 1 t m y] true false]) (fun i => k - i) (fun i => i ≤ k ∧ ∀ (j : Nat) r, j < i → (seg L q k)[j]? = some r → (!accB (up, uq) (seg l s n) vp vb (gp, gq) (seg T t m) r) = false) 0 ⟨Nat.zero_le _, fun j r hj => by omega⟩ ?_ ?_
      · (repeat' ((try (conv => whnf)); first | (with_reducible first | refine And.intro ?_ ?_ | refine WX.of ?_) | exact zc | ((with_reducible refine VC.mk ?_); exact zw) | (with_reducible first | refine splitT ?_ | refine splitF ?_) | ((with_reducible refine splitM.mk (fun hsm => ?_) (fun hsm => ?_)) <;> (try exact zx)) | ((with_reducible refine splitB.mk (fun h => ?_) (fun h => ?_)) <;> (try simp only [zs, ne_eq] at h) <;> (try simp (disch := omega) only [w64] at h) <;> (try exact zx)) | (with_reducible intro hz; (try exact absurd hz (Nat.succ_ne_zero _)))))
      · intro i ⟨hi, hp⟩
        by_cases hlt : i < k
        · obtain ⟨r, ha⟩ := get_some (l := seg L q k) (i := i) (by omega)
          (repeat' ((try (conv => whnf)); first | (with_reducible first | refine And.intro ?_ ?_ | refine WX.of ?_) | exact zc | ((with_reducible refine VC.mk ?_); exact zw) | refine atL_i ha ?_ | ((with_reducible refine VC.mk ?_); exact hq) | (with_reducible first | refine splitT ?_ | refine splitF ?_) | ((with_reducible refine splitM.mk (fun hsm => ?_) (fun hsm => ?_)) <;> (try exact zx)) | ((with_reducible refine splitB.mk (fun h => ?_) (fun h => ?_)) <;> (try simp only [zs, ne_eq] at h) <;> (try simp (disch := omega) only [w64] at h) <;> (try exact zx)) | (with_reducible intro hz; (try exact absurd hz (Nat.succ_ne_zero _)))))
          · rename_i hlk
            have h2 : (bnB up uq vp gp gq (seg l s n) (seg T t m) && accB (up, uq) (seg l s n) vp vb (gp, gq) (seg T t m) r) = false := h
            rw [hb, Bool.true_and] at h2
            have hf : ckI (up, uq) (seg l s n) vp vb (gp, gq) (seg T t m) (seg L q k) = (i : Int) := findI_some ha (by rw [h2]; rfl) hp
            exact ⟨by rw [hf, ckV_i hk40, ckC_i hk40]⟩
          · rename_i hlk
            have h2 : (bnB up uq vp gp gq (seg l s n) (seg T t m) && accB (up, uq) (seg l s n) vp vb (gp, gq) (seg T t m) r) = true := h
            rw [hb, Bool.true_and] at h2
            refine ⟨i + 1, by omega, ⟨hlt, fun j r' hj hr' => ?_⟩, ?_⟩
            · by_cases e : j < i
              · exact hp j r' e hr'
              · obtain rfl : j = i := by omega
                rw [ha] at hr'; obtain rfl := Option.some.inj hr'
                rw [h2]; rfl
            (repeat' ((try (conv => whnf)); first | (with_reducible first | refine And.intro ?_ ?_ | refine WX.of ?_) | exact zc | ((with_reducible refine VC.mk ?_); exact zw) | (with_reducible first | refine splitT ?_ | refine splitF ?_) | ((with_reducible refine splitM.mk (fun hsm => ?_) (fun hsm => ?_)) <;> (try exact zx)) | ((with_reducible refine splitB.mk (fun h => ?_) (fun h => ?_)) <;> (try simp only [zs, ne_eq] at h) <;> (try simp (disch := omega) only [w64] at h) <;> (try exact zx)) | (with_reducible intro hz; (try exact absurd hz (Nat.succ_ne_zero _)))))
        · obtain rfl : i = k := by omega
          have hf : ckI (up, uq) (seg l s n) vp vb (gp, gq) (seg T t m) (seg L q i) = -1 := findI_none fun j r hr => hp j r (by have := (List.getElem?_eq_some_iff.1 hr).1; omega) hr
          (repeat' ((try (conv => whnf)); first | (with_reducible first | refine And.intro ?_ ?_ | refine WX.of ?_) | exact zc | ((with_reducible refine VC.mk ?_); exact zw) | (with_reducible first | refine splitT ?_ | refine splitF ?_) | ((with_reducible refine splitM.mk (fun hsm => ?_) (fun hsm => ?_)) <;> (try exact zx)) | ((with_reducible refine splitB.mk (fun h => ?_) (fun h => ?_)) <;> (try simp only [zs, ne_eq] at h) <;> (try simp (disch := omega) only [w64] at h) <;> (try exact zx)) | (with_reducible intro hz; (try exact absurd hz (Nat.succ_ne_zero _)))))
          exact ⟨by rw [hf, ckV_n, ckC_n hk40]⟩
def s_accJ : Spec := fun args S => match args, S with
  | [.ptr 0 0 0, .ptr 1 j 0], [.box [.int .i64 up, .int .i64 uq, .sl 2 s n x, .int .i64 vp, .bool vb, .int .i64 gp, .int .i64 gq, .sl 3 t m y] true false, .arr (.prod (.prod (.int .i64) (.prod (.prod (.int .i64) (.int .i64)) (.prod (.int .i64) (.int .i64)))) (.prod (.prod (.int .i64) (.int .i64)) (.prod (.prod (.int .i64) (.int .i64)) (.prod (.prod (.int .i64) (.int .i64)) (.prod (.prod (.int .i64) (.int .i64)) (.prod (.int .i64) (.int .i64))))))) L sz wR, .arr (.prod (.int .i64) (.int .i64)) l 2 wr, .arr (.prod .str (.prod (.prod (.int .i64) (.int .i64)) (.prod (.int .i64) (.int .i64)))) T 5 wT] => ⟨((s + n ≤ l.length ∧ n ≤ 1048576) ∧ t + m ≤ T.length ∧ m ≤ 1048576) ∧ bnB up uq vp gp gq (seg l s n) (seg T t m) = true ∧ j < L.length, .bool (accB (up, uq) (seg l s n) vp vb (gp, gq) (seg T t m) ((L[j]?).getD rp0)), [.box [.int .i64 up, .int .i64 uq, .sl 2 s n x, .int .i64 vp, .bool vb, .int .i64 gp, .int .i64 gq, .sl 3 t m y] true false, .arr (.prod (.prod (.int .i64) (.prod (.prod (.int .i64) (.int .i64)) (.prod (.int .i64) (.int .i64)))) (.prod (.prod (.int .i64) (.int .i64)) (.prod (.prod (.int .i64) (.int .i64)) (.prod (.prod (.int .i64) (.int .i64)) (.prod (.prod (.int .i64) (.int .i64)) (.prod (.int .i64) (.int .i64))))))) L sz wR, .arr (.prod (.int .i64) (.int .i64)) l 2 wr, .arr (.prod .str (.prod (.prod (.int .i64) (.int .i64)) (.prod (.int .i64) (.int .i64)))) T 5 wT]⟩
  | _, _ => noSpec
theorem ok_accJ : SpecOk Tryz.prog 48 s_accJ := by
  intro args S h; unfold s_accJ at h ⊢; (split at h <;> first | exact False.elim h | skip)
  dsimp only at h ⊢
  rename_i j up uq s n x vp vb gp gq t m y L sz wR l wr T wT
  obtain ⟨h1, hb, hj⟩ := h
  obtain ⟨r, hr⟩ := get_some hj
  rw [hr]
  exact ok_l07Accepted r [.ptr 0 0 0, .ptr 1 j 0] [.box [.int .i64 up, .int .i64 uq, .sl 2 s n x, .int .i64 vp, .bool vb, .int .i64 gp, .int .i64 gq, .sl 3 t m y] true false, .arr (.prod (.prod (.int .i64) (.prod (.prod (.int .i64) (.int .i64)) (.prod (.int .i64) (.int .i64)))) (.prod (.prod (.int .i64) (.int .i64)) (.prod (.prod (.int .i64) (.int .i64)) (.prod (.prod (.int .i64) (.int .i64)) (.prod (.prod (.int .i64) (.int .i64)) (.prod (.int .i64) (.int .i64))))))) L sz wR, .arr (.prod (.int .i64) (.int .i64)) l 2 wr, .arr (.prod .str (.prod (.prod (.int .i64) (.int .i64)) (.prod (.int .i64) (.int .i64)))) T 5 wT] ⟨h1, hb, hr⟩
attribute [local irreducible] bnB accB in
set_option maxHeartbeats 3200000 in
theorem ok_CheckReportsS : SpecOk Tryz.prog 20 s_chks := by
  intro args S h; unfold s_chks at h ⊢; (split at h <;> first | exact False.elim h | skip)
  dsimp only at h ⊢
  rename_i up uq s n x vp vb gp gq t m y q k z l wr T wT L wL
  obtain ⟨hq, hk⟩ := h
  have hLk := seg_len hk.1
  cases hb : bnB up uq vp gp gq (seg l s n) (seg T t m) with
  | false =>
    refine funW tabOk (E := [(47, s_l07Ok)]) ⟨ok_l07Ok, trivial⟩ [] (k := 3) (fn := Tryz.f20) rfl rfl rfl rfl rfl rfl ?_
    (repeat' ((try (conv => whnf)); first | (with_reducible first | refine And.intro ?_ ?_ | refine WX.of ?_) | exact zc | ((with_reducible refine VC.mk ?_); exact zw) | ((with_reducible refine splitT_of ?_ ?_); (focus (simp only [hb, Bool.not_true, Bool.not_false, decide_true, decide_false]; done))) | ((with_reducible refine splitF_of ?_ ?_); (focus (simp only [hb, Bool.not_true, Bool.not_false, decide_true, decide_false]; done))) | ((with_reducible refine VC.mk ?_); exact hq) | (with_reducible first | refine splitT ?_ | refine splitF ?_) | ((with_reducible refine splitM.mk (fun hsm => ?_) (fun hsm => ?_)) <;> (try exact zx)) | ((with_reducible refine splitB.mk (fun h => ?_) (fun h => ?_)) <;> (try simp only [zs, ne_eq] at h) <;> (try simp (disch := omega) only [w64] at h) <;> (try exact zx)) | (with_reducible intro hz; (try exact absurd hz (Nat.succ_ne_zero _)))))
  | true =>
    refine funW tabOk (E := [(47, s_l07Ok), (48, s_accJ)]) ⟨ok_l07Ok, ok_accJ, trivial⟩ [] (k := 3) (fn := Tryz.f20) rfl rfl rfl rfl rfl rfl ?_
    (repeat' ((try (conv => whnf)); first | (with_reducible first | refine And.intro ?_ ?_ | refine WX.of ?_) | exact zc | ((with_reducible refine VC.mk ?_); exact zw) | ((with_reducible refine splitT_of ?_ ?_); (focus (simp only [hb, Bool.not_true, Bool.not_false, decide_true, decide_false]; done))) | ((with_reducible refine splitF_of ?_ ?_); (focus (simp only [hb, Bool.not_true, Bool.not_false, decide_true, decide_false]; done))) | ((with_reducible refine VC.mk ?_); exact hq) | (with_reducible first | refine splitT ?_ | refine splitF ?_) | ((with_reducible refine splitM.mk (fun hsm => ?_) (fun hsm => ?_)) <;> (try exact zx)) | ((with_reducible refine splitB.mk (fun h => ?_) (fun h => ?_)) <;> (try simp only [zs, ne_eq] at h) <;> (try simp (disch := omega) only [w64] at h) <;> (try exact zx)) | (with_reducible intro hz; (try exact absurd hz (Nat.succ_ne_zero _)))))
    · exact ⟨by unfold ckV ckC; rw [if_pos rfl, if_pos rfl, if_pos (by omega), if_pos (by omega)]⟩
    · have hk40 : ¬ 40 < k := by omega
      refine loopW tabOk (E := [(47, s_l07Ok), (48, s_accJ)]) ⟨ok_l07Ok, ok_accJ, trivial⟩ [] (σ := Nat) (fun i => [(1, .sl 2 q k z), (2, .ptr 3 0 0), (6, .int .i64 i)]) (fun i => [.arr (.prod (.int .i64) (.int .i64)) l 2 wr, .arr (.prod .str (.prod (.prod (.int .i64) (.int .i64)) (.prod (.int .i64) (.int .i64)))) T 5 wT, .arr (.prod (.prod (.int .i64) (.prod (.prod (.int .i64) (.int .i64)) (.prod (.int .i64) (.int .i64)))) (.prod (.prod (.int .i64) (.int .i64)) (.prod (.prod (.int .i64) (.int .i64)) (.prod (.prod (.int .i64) (.int .i64)) (.prod (.prod (.int .i64) (.int .i64)) (.prod (.int .i64) (.int .i64))))))) L 15 wL, .box [.int .i64 up, .int .i64 uq, .sl 0 s n x, .int .i64 vp, .bool vb, .int .i64 gp, .int .i64 gq, .sl 1 t m y] true false]) (fun i => k - i) (fun i => i ≤ k ∧ ∀ (j : Nat) r, j < i → (seg L q k)[j]? = some r → (!accB (up, uq) (seg l s n) vp vb (gp, gq) (seg T t m) r) = false) 0 ⟨Nat.zero_le _, fun j r hj => by omega⟩ ?_ ?_
      · (repeat' ((try (conv => whnf)); first | (with_reducible first | refine And.intro ?_ ?_ | refine WX.of ?_) | exact zc | ((with_reducible refine VC.mk ?_); exact zw) | (with_reducible first | refine splitT ?_ | refine splitF ?_) | ((with_reducible refine splitM.mk (fun hsm => ?_) (fun hsm => ?_)) <;> (try exact zx)) | ((with_reducible refine splitB.mk (fun h => ?_) (fun h => ?_)) <;> (try simp only [zs, ne_eq] at h) <;> (try simp (disch := omega) only [w64] at h) <;> (try exact zx)) | (with_reducible intro hz; (try exact absurd hz (Nat.succ_ne_zero _)))))
      · intro i ⟨hi, hp⟩
        by_cases hlt : i < k
        · obtain ⟨r, ha⟩ := get_some (l := seg L q k) (i := i) (by omega)
          have hLr := (seg_get ha).1
          have hd : (L[q + ((i : Nat) : Int).toNat]?).getD rp0 = r := by rw [Int.toNat_natCast, hLr]; rfl
          (repeat' ((try (conv => whnf)); first | (with_reducible first | refine And.intro ?_ ?_ | refine WX.of ?_) | exact zc | ((with_reducible refine VC.mk ?_); exact zw) | ((with_reducible refine VC.mk ?_); exact ⟨⟨hq.1, hq.2.1⟩, hb, (by omega)⟩) | (with_reducible first | refine splitT ?_ | refine splitF ?_) | ((with_reducible refine splitM.mk (fun hsm => ?_) (fun hsm => ?_)) <;> (try exact zx)) | ((with_reducible refine splitB.mk (fun h => ?_) (fun h => ?_)) <;> (try simp only [zs, ne_eq] at h) <;> (try simp (disch := omega) only [w64] at h) <;> (try exact zx)) | (with_reducible intro hz; (try exact absurd hz (Nat.succ_ne_zero _)))))
          · rw [hd] at h
            have hf : ckI (up, uq) (seg l s n) vp vb (gp, gq) (seg T t m) (seg L q k) = (i : Int) := findI_some ha (by rw [h]; rfl) hp
            exact ⟨by rw [hf, ckV_i hk40, ckC_i hk40]⟩
          · rw [hd] at h
            have hacc := h
            refine ⟨i + 1, by omega, ⟨hlt, fun j r' hj hr' => ?_⟩, ?_⟩
            · by_cases e : j < i
              · exact hp j r' e hr'
              · obtain rfl : j = i := by omega
                rw [ha] at hr'; obtain rfl := Option.some.inj hr'
                rw [hacc]; rfl
            (repeat' ((try (conv => whnf)); first | (with_reducible first | refine And.intro ?_ ?_ | refine WX.of ?_) | exact zc | ((with_reducible refine VC.mk ?_); exact zw) | (with_reducible first | refine splitT ?_ | refine splitF ?_) | ((with_reducible refine splitM.mk (fun hsm => ?_) (fun hsm => ?_)) <;> (try exact zx)) | ((with_reducible refine splitB.mk (fun h => ?_) (fun h => ?_)) <;> (try simp only [zs, ne_eq] at h) <;> (try simp (disch := omega) only [w64] at h) <;> (try exact zx)) | (with_reducible intro hz; (try exact absurd hz (Nat.succ_ne_zero _)))))
        · obtain rfl : i = k := by omega
          have hf : ckI (up, uq) (seg l s n) vp vb (gp, gq) (seg T t m) (seg L q i) = -1 := findI_none fun j r hr => hp j r (by have := (List.getElem?_eq_some_iff.1 hr).1; omega) hr
          (repeat' ((try (conv => whnf)); first | (with_reducible first | refine And.intro ?_ ?_ | refine WX.of ?_) | exact zc | ((with_reducible refine VC.mk ?_); exact zw) | (with_reducible first | refine splitT ?_ | refine splitF ?_) | ((with_reducible refine splitM.mk (fun hsm => ?_) (fun hsm => ?_)) <;> (try exact zx)) | ((with_reducible refine splitB.mk (fun h => ?_) (fun h => ?_)) <;> (try simp only [zs, ne_eq] at h) <;> (try simp (disch := omega) only [w64] at h) <;> (try exact zx)) | (with_reducible intro hz; (try exact absurd hz (Nat.succ_ne_zero _)))))
          exact ⟨by rw [hf, ckV_n, ckC_n hk40]⟩
end Go.Proofs.YtbmejhabgoimeaaGreat.Eng
set_option linter.unusedVariables false
set_option linter.unusedSimpArgs false
namespace Go.Proofs.YtbmejhabgoimeaaGreat.Eng
open Go Go.RowKit
set_option maxRecDepth 100000
abbrev SpT : Type := (Int × Int) × Int × Int
def spB (s : SpT) : Bool := spOk s.1.1 s.1.2 s.2.1 s.2.2
def nspB (s : SpT) : Bool := !spB s
def s_nvSp : Spec := fun args S => match args, S with
  | [.agg [.int .i64 p, .int .i64 q, .int .i64 p', .int .i64 q']], [] => ⟨True, .bool (!spOk p q p' q'), []⟩
  | _, _ => noSpec
theorem ok_areSpans1 : SpecOk Tryz.prog 160 s_nvSp := by
  intro args S h; unfold s_nvSp at h ⊢; (split at h <;> first | exact False.elim h | skip)
  dsimp only at h ⊢
  refine funW tabOk (E := [(142, s_vSpan)]) ⟨ok_ValidSpan, trivial⟩ [] (k := 0) (fn := Tryz.f160) rfl rfl rfl rfl rfl rfl ?_
  (repeat' ((try (conv => whnf)); first | (with_reducible first | refine And.intro ?_ ?_ | refine WX.of ?_) | exact zc | ((with_reducible refine VC.mk ?_); exact zw) | (with_reducible first | refine splitT ?_ | refine splitF ?_) | ((with_reducible refine splitM.mk (fun hsm => ?_) (fun hsm => ?_)) <;> (try exact zx)) | ((with_reducible refine splitB.mk (fun h => ?_) (fun h => ?_)) <;> (try simp only [zs, ne_eq] at h) <;> (try simp (disch := omega) only [w64] at h) <;> (try exact zx)) | (with_reducible intro hz; (try exact absurd hz (Nat.succ_ne_zero _)))))
def s_idxSp (g : Nat) : Spec := fun args S => match args, S with
  | [.sl 0 s n x, .fn g' []], [.arr (.prod (.prod (.int .i64) (.int .i64)) (.prod (.int .i64) (.int .i64))) l 4 wr] => ⟨g' = g ∧ s + n ≤ l.length ∧ n ≤ 4611686018427387904, .int .i64 (findI nspB (seg l s n)), [.arr (.prod (.prod (.int .i64) (.int .i64)) (.prod (.int .i64) (.int .i64))) l 4 wr]⟩
  | _, _ => noSpec
theorem ok_idxSp : SpecOk Tryz.prog 166 (s_idxSp 160) := by
  intro args S h; unfold s_idxSp at h ⊢; (split at h <;> first | exact False.elim h | skip)
  dsimp only at h ⊢
  rename_i s n x g l wr
  obtain ⟨rfl, h1, h2⟩ := h
  have hL := seg_len h1
  refine funW tabOk (E := [(160, s_nvSp)]) ⟨ok_areSpans1, trivial⟩ [] (k := 1) (fn := Tryz.f166) rfl rfl rfl rfl rfl rfl ?_
  (repeat' ((try (conv => whnf)); first | (with_reducible first | refine And.intro ?_ ?_ | refine WX.of ?_) | exact zc | ((with_reducible refine VC.mk ?_); exact zw) | (with_reducible first | refine splitT ?_ | refine splitF ?_) | ((with_reducible refine splitM.mk (fun hsm => ?_) (fun hsm => ?_)) <;> (try exact zx)) | ((with_reducible refine splitB.mk (fun h => ?_) (fun h => ?_)) <;> (try simp only [zs, ne_eq] at h) <;> (try simp (disch := omega) only [w64] at h) <;> (try exact zx)) | (with_reducible intro hz; (try exact absurd hz (Nat.succ_ne_zero _)))))
  refine loopW tabOk (E := [(160, s_nvSp)]) ⟨ok_areSpans1, trivial⟩ [] (σ := Nat) (fun i => [(0, .sl 0 s n x), (1, .fn 160 []), (7, .int .i64 n), (8, .int .i64 i)]) (fun i => [.arr (.prod (.prod (.int .i64) (.int .i64)) (.prod (.int .i64) (.int .i64))) l 4 wr]) (fun i => n - i) (fun i => i ≤ n ∧ ∀ (j : Nat) a, j < i → (seg l s n)[j]? = some a → nspB a = false) 0 ⟨Nat.zero_le _, fun j a hj => by omega⟩ ?_ ?_
  · (repeat' ((try (conv => whnf)); first | (with_reducible first | refine And.intro ?_ ?_ | refine WX.of ?_) | exact zc | ((with_reducible refine VC.mk ?_); exact zw) | (with_reducible first | refine splitT ?_ | refine splitF ?_) | ((with_reducible refine splitM.mk (fun hsm => ?_) (fun hsm => ?_)) <;> (try exact zx)) | ((with_reducible refine splitB.mk (fun h => ?_) (fun h => ?_)) <;> (try simp only [zs, ne_eq] at h) <;> (try simp (disch := omega) only [w64] at h) <;> (try exact zx)) | (with_reducible intro hz; (try exact absurd hz (Nat.succ_ne_zero _)))))
  · intro i ⟨hi, hp⟩
    by_cases hlt : i < n
    · obtain ⟨a, ha⟩ := get_some (l := seg l s n) (i := i) (by omega)
      (repeat' ((try (conv => whnf)); first | (with_reducible first | refine And.intro ?_ ?_ | refine WX.of ?_) | exact zc | ((with_reducible refine VC.mk ?_); exact zw) | refine atL_i ha ?_ | (with_reducible first | refine splitT ?_ | refine splitF ?_) | ((with_reducible refine splitM.mk (fun hsm => ?_) (fun hsm => ?_)) <;> (try exact zx)) | ((with_reducible refine splitB.mk (fun h => ?_) (fun h => ?_)) <;> (try simp only [zs, ne_eq] at h) <;> (try simp (disch := omega) only [w64] at h) <;> (try exact zx)) | (with_reducible intro hz; (try exact absurd hz (Nat.succ_ne_zero _)))))
      · exact ⟨by rw [findI_some ha (by simpa [nspB, spB] using h) hp]⟩
      · refine ⟨i + 1, by omega, ⟨hlt, upto_step ha (by simpa [nspB, spB] using h) hp⟩, ?_⟩
        (repeat' ((try (conv => whnf)); first | (with_reducible first | refine And.intro ?_ ?_ | refine WX.of ?_) | exact zc | ((with_reducible refine VC.mk ?_); exact zw) | (with_reducible first | refine splitT ?_ | refine splitF ?_) | ((with_reducible refine splitM.mk (fun hsm => ?_) (fun hsm => ?_)) <;> (try exact zx)) | ((with_reducible refine splitB.mk (fun h => ?_) (fun h => ?_)) <;> (try simp only [zs, ne_eq] at h) <;> (try simp (disch := omega) only [w64] at h) <;> (try exact zx)) | (with_reducible intro hz; (try exact absurd hz (Nat.succ_ne_zero _)))))
    · (repeat' ((try (conv => whnf)); first | (with_reducible first | refine And.intro ?_ ?_ | refine WX.of ?_) | exact zc | ((with_reducible refine VC.mk ?_); exact zw) | (with_reducible first | refine splitT ?_ | refine splitF ?_) | ((with_reducible refine splitM.mk (fun hsm => ?_) (fun hsm => ?_)) <;> (try exact zx)) | ((with_reducible refine splitB.mk (fun h => ?_) (fun h => ?_)) <;> (try simp only [zs, ne_eq] at h) <;> (try simp (disch := omega) only [w64] at h) <;> (try exact zx)) | (with_reducible intro hz; (try exact absurd hz (Nat.succ_ne_zero _)))))
      exact ⟨by rw [findI_none fun j a hj => hp j a (by have := (List.getElem?_eq_some_iff.1 hj).1; omega) hj]⟩
def s_anySp (g : Nat) : Spec := fun args S => match args, S with
  | [.sl 0 s n x, .fn g' []], [.arr (.prod (.prod (.int .i64) (.int .i64)) (.prod (.int .i64) (.int .i64))) l 4 wr] => ⟨g' = g ∧ s + n ≤ l.length ∧ n ≤ 4611686018427387904, .bool ((seg l s n).any nspB), [.arr (.prod (.prod (.int .i64) (.int .i64)) (.prod (.int .i64) (.int .i64))) l 4 wr]⟩
  | _, _ => noSpec
theorem ok_anySp : SpecOk Tryz.prog 159 (s_anySp 160) := by
  intro args S h; unfold s_anySp at h ⊢; (split at h <;> first | exact False.elim h | skip)
  dsimp only at h ⊢
  rename_i s n x g l wr
  obtain ⟨rfl, h1, h2⟩ := h
  refine funW tabOk (E := [(166, (s_idxSp 160))]) ⟨ok_idxSp, trivial⟩ [] (k := 1) (fn := Tryz.f159) rfl rfl rfl rfl rfl rfl ?_
  (repeat' ((try (conv => whnf)); first | (with_reducible first | refine And.intro ?_ ?_ | refine WX.of ?_) | exact zc | ((with_reducible refine VC.mk ?_); exact zw) | (with_reducible first | refine splitT ?_ | refine splitF ?_) | ((with_reducible refine splitM.mk (fun hsm => ?_) (fun hsm => ?_)) <;> (try exact zx)) | ((with_reducible refine splitB.mk (fun h => ?_) (fun h => ?_)) <;> (try simp only [zs, ne_eq] at h) <;> (try simp (disch := omega) only [w64] at h) <;> (try exact zx)) | (with_reducible intro hz; (try exact absurd hz (Nat.succ_ne_zero _)))))
  exact ⟨by rw [findI_any]⟩
def s_areSp : Spec := fun args S => match args, S with
  | [.sl 0 s n x], [.arr (.prod (.prod (.int .i64) (.int .i64)) (.prod (.int .i64) (.int .i64))) l 4 wr] => ⟨s + n ≤ l.length ∧ n ≤ 4611686018427387904, .bool ((seg l s n).all spB), [.arr (.prod (.prod (.int .i64) (.int .i64)) (.prod (.int .i64) (.int .i64))) l 4 wr]⟩
  | _, _ => noSpec
theorem ok_areSpans : SpecOk Tryz.prog 139 s_areSp := by
  intro args S h; unfold s_areSp at h ⊢; (split at h <;> first | exact False.elim h | skip)
  dsimp only at h ⊢
  refine funW tabOk (E := [(159, (s_anySp 160))]) ⟨ok_anySp, trivial⟩ [] (k := 1) (fn := Tryz.f139) rfl rfl rfl rfl rfl rfl ?_
  (repeat' ((try (conv => whnf)); first | (with_reducible first | refine And.intro ?_ ?_ | refine WX.of ?_) | exact zc | ((with_reducible refine VC.mk ?_); exact zw) | (with_reducible first | refine splitT ?_ | refine splitF ?_) | ((with_reducible refine splitM.mk (fun hsm => ?_) (fun hsm => ?_)) <;> (try exact zx)) | ((with_reducible refine splitB.mk (fun h => ?_) (fun h => ?_)) <;> (try simp only [zs, ne_eq] at h) <;> (try simp (disch := omega) only [w64] at h) <;> (try exact zx)) | (with_reducible intro hz; (try exact absurd hz (Nat.succ_ne_zero _)))))
  all_goals (refine ⟨?_⟩; rw [List.all_eq_not_any_not]; rfl)
/-- What is in both. -/
def mtS (a b : SpT) : SpT := (moF a.1.1 a.1.2 b.1.1 b.1.2, leF a.2.1 a.2.2 b.2.1 b.2.2)
def mtOk (a b : SpT) : Bool := decide ((mtS a b).1.1 * (mtS a b).2.2 ≤ (mtS a b).2.1 * (mtS a b).1.2)
theorem spB_f {s : SpT} (h : spB s = true) : fOk s.1.1 s.1.2 = true ∧ fOk s.2.1 s.2.2 = true ∧ s.1.1 * s.2.2 ≤ s.2.1 * s.1.2 := by
  unfold spB at h; rw [spOk_iff] at h; exact h
theorem mo_fOk {p q p' q' : Int} (h : fOk p q = true) (h' : fOk p' q' = true) : fOk (moF p q p' q').1 (moF p q p' q').2 = true := by unfold moF; split <;> assumption
theorem le_fOk {p q p' q' : Int} (h : fOk p q = true) (h' : fOk p' q' = true) : fOk (leF p q p' q').1 (leF p q p' q').2 = true := by unfold leF; split <;> assumption
theorem mt_ok {a b : SpT} (ha : spB a = true) (hb : spB b = true) : spB (mtS a b) = mtOk a b := by
  have h1 := spB_f ha
  have h2 := spB_f hb
  unfold spB mtOk spOk
  unfold mtS
  dsimp only
  rw [mo_fOk h1.1 h2.1, le_fOk h1.2.1 h2.2.1]; rfl
theorem mt_self {a : SpT} (ha : spB a = true) : mtS a a = a ∧ mtOk a a = true := by
  have e : mtS a a = a := by unfold mtS moF leF; simp
  exact ⟨e, by rw [← mt_ok ha ha, e]; exact ha⟩
def s_MeetSp : Spec := fun args S => match args, S with
  | [.agg [.int .i64 p, .int .i64 q, .int .i64 p', .int .i64 q'], .agg [.int .i64 r, .int .i64 s, .int .i64 r', .int .i64 s']], [] => ⟨spB ((p, q), p', q') = true ∧ spB ((r, s), r', s') = true, .tup [.agg [.int .i64 (if mtOk ((p, q), p', q') ((r, s), r', s') = true then (mtS ((p, q), p', q') ((r, s), r', s')).1.1 else 0), .int .i64 (if mtOk ((p, q), p', q') ((r, s), r', s') = true then (mtS ((p, q), p', q') ((r, s), r', s')).1.2 else 0), .int .i64 (if mtOk ((p, q), p', q') ((r, s), r', s') = true then (mtS ((p, q), p', q') ((r, s), r', s')).2.1 else 0), .int .i64 (if mtOk ((p, q), p', q') ((r, s), r', s') = true then (mtS ((p, q), p', q') ((r, s), r', s')).2.2 else 0)], .int .i64 (if mtOk ((p, q), p', q') ((r, s), r', s') = true then 0 else 6)], []⟩
  | _, _ => noSpec
theorem ok_MeetSpans : SpecOk Tryz.prog 104 s_MeetSp := by
  intro args S h; unfold s_MeetSp at h ⊢; (split at h <;> first | exact False.elim h | skip)
  dsimp only at h ⊢
  rename_i p q p' q' r s r' s'
  obtain ⟨h1, h2⟩ := h
  have g1 := spB_f h1
  have g2 := spB_f h2
  have hal : List.all (seg [((p, q), p', q'), ((r, s), r', s')] 0 2) spB = true := by simp [seg, h1, h2]
  have hm := mt_ok h1 h2
  refine funW tabOk (E := [(139, s_areSp), (140, s_more), (141, s_less), (142, s_vSpan)]) ⟨ok_areSpans, ok_greater, ok_lesser, ok_ValidSpan, trivial⟩ [(3, [(6, 0), (8, 0), (11, 0), (11, 1)])] (k := 0) (fn := Tryz.f104) rfl rfl rfl rfl rfl rfl ?_
  (repeat' ((try (conv => whnf)); first | (with_reducible first | refine And.intro ?_ ?_ | refine WX.of ?_) | exact zc | ((with_reducible refine VC.mk ?_); exact zw) | ((with_reducible refine splitT_of ?_ ?_); (focus (simp only [hal, Bool.not_true, Bool.not_false, decide_true, decide_false]; done))) | ((with_reducible refine splitF_of ?_ ?_); (focus (simp only [hal, Bool.not_true, Bool.not_false, decide_true, decide_false]; done))) | ((with_reducible refine VC.mk ?_); exact ⟨smF_ok g1.1, smF_ok g2.1⟩) | ((with_reducible refine VC.mk ?_); exact ⟨smF_ok g1.2.1, smF_ok g2.2.1⟩) | (with_reducible first | refine splitT ?_ | refine splitF ?_) | ((with_reducible refine splitM.mk (fun hsm => ?_) (fun hsm => ?_)) <;> (try exact zx)) | ((with_reducible refine splitB.mk (fun h => ?_) (fun h => ?_)) <;> (try simp only [zs, ne_eq] at h) <;> (try simp (disch := omega) only [w64] at h) <;> (try exact zx)) | (with_reducible intro hz; (try exact absurd hz (Nat.succ_ne_zero _)))))
  · exact ⟨⟨Nat.le_refl 2, by omega⟩⟩
  · have hb : mtOk ((p, q), p', q') ((r, s), r', s') = false := by rw [← hm]; exact h
    exact ⟨by simp only [hb, if_false, Bool.false_eq_true]⟩
  · have hb : mtOk ((p, q), p', q') ((r, s), r', s') = true := by rw [← hm]; exact h
    exact ⟨by simp only [hb, if_true]; rfl⟩
/-- What is in the first i of some spans. -/
def mtN (W : List SpT) : Nat → Option SpT
  | 0 => W[0]?
  | i + 1 => match mtN W i, W[i]? with
    | some s, some a => if mtOk s a = true then some (mtS s a) else none
    | _, _ => none
theorem mtN_none {W : List SpT} {i : Nat} (h : mtN W i = none) : ∀ (j : Nat), mtN W (i + j) = none
  | 0 => h
  | j + 1 => by have := mtN_none h j; rw [← Nat.add_assoc, mtN, this]
theorem mtN_step {W : List SpT} {i : Nat} {s a : SpT} (h : mtN W i = some s) (ha : W[i]? = some a) : mtN W (i + 1) = if mtOk s a = true then some (mtS s a) else none := by rw [mtN, h, ha]
theorem mtN_ok {W : List SpT} (hW : ∀ a ∈ W, spB a = true) : ∀ {i : Nat} {s : SpT}, mtN W i = some s → spB s = true
  | 0, s, h => hW s (List.mem_of_getElem? h)
  | i + 1, s, h => by
    rw [mtN] at h
    split at h
    · rename_i s' a h1 h2
      split at h
      · rename_i hk
        obtain rfl := Option.some.inj h
        rw [mt_ok (mtN_ok hW h1) (hW a (List.mem_of_getElem? h2))]; exact hk
      · simp at h
    · simp at h
def s_mAll : Spec := fun args S => match args, S with
  | [.sl 0 s n x], [.arr (.prod (.prod (.int .i64) (.int .i64)) (.prod (.int .i64) (.int .i64))) l 4 wr] => ⟨s + n ≤ l.length ∧ 1 ≤ n ∧ n ≤ 1048576 ∧ ∀ a ∈ seg l s n, spB a = true, .tup [.agg [.int .i64 ((mtN (seg l s n) n).getD ((0, 0), 0, 0)).1.1, .int .i64 ((mtN (seg l s n) n).getD ((0, 0), 0, 0)).1.2, .int .i64 ((mtN (seg l s n) n).getD ((0, 0), 0, 0)).2.1, .int .i64 ((mtN (seg l s n) n).getD ((0, 0), 0, 0)).2.2], .int .i64 (if (mtN (seg l s n) n).isSome = true then 0 else 6)], [.arr (.prod (.prod (.int .i64) (.int .i64)) (.prod (.int .i64) (.int .i64))) l 4 wr]⟩
  | _, _ => noSpec
theorem ok_meetAll : SpecOk Tryz.prog 55 s_mAll := by
  intro args S h; unfold s_mAll at h ⊢; (split at h <;> first | exact False.elim h | skip)
  dsimp only at h ⊢
  rename_i s n x l wr
  obtain ⟨h1, h2, h3, hW⟩ := h
  have hL := seg_len h1
  obtain ⟨⟨⟨p0, q0⟩, r0, s0⟩, h0⟩ := get_some (l := seg l s n) (i := 0) (by omega)
  refine funW tabOk (E := [(104, s_MeetSp)]) ⟨ok_MeetSpans, trivial⟩ [] (k := 1) (fn := Tryz.f55) rfl rfl rfl rfl rfl rfl ?_
  (repeat' ((try (conv => whnf)); first | (with_reducible first | refine And.intro ?_ ?_ | refine WX.of ?_) | exact zc | ((with_reducible refine VC.mk ?_); exact zw) | with_reducible refine atL_p (by simpa using (seg_get h0).1) ?_ | (with_reducible first | refine splitT ?_ | refine splitF ?_) | ((with_reducible refine splitM.mk (fun hsm => ?_) (fun hsm => ?_)) <;> (try exact zx)) | ((with_reducible refine splitB.mk (fun h => ?_) (fun h => ?_)) <;> (try simp only [zs, ne_eq] at h) <;> (try simp (disch := omega) only [w64] at h) <;> (try exact zx)) | (with_reducible intro hz; (try exact absurd hz (Nat.succ_ne_zero _)))))
  have hm0 : mtN (seg l s n) 0 = some ((p0, q0), r0, s0) := h0
  refine loopW tabOk (E := [(104, s_MeetSp)]) ⟨ok_MeetSpans, trivial⟩ [] (σ := Nat × SpT) (fun z => [(2, .ptr 1 0 0), (4, .ptr 2 0 0), (11, .sl 0 s n x), (12, .int .i64 n), (13, .int .i64 z.1)]) (fun z => [.arr (.prod (.prod (.int .i64) (.int .i64)) (.prod (.int .i64) (.int .i64))) l 4 wr, .arr (.prod (.prod (.int .i64) (.int .i64)) (.prod (.int .i64) (.int .i64))) [((0, 0), 0, 0)] 0 true, .arr (.prod (.prod (.int .i64) (.int .i64)) (.prod (.int .i64) (.int .i64))) [z.2] 0 true]) (fun z => n - z.1) (fun z => z.1 ≤ n ∧ mtN (seg l s n) z.1 = some z.2) (0, ((p0, q0), r0, s0)) ⟨Nat.zero_le _, hm0⟩ ?_ ?_
  · (repeat' ((try (conv => whnf)); first | (with_reducible first | refine And.intro ?_ ?_ | refine WX.of ?_) | exact zc | ((with_reducible refine VC.mk ?_); exact zw) | (with_reducible first | refine splitT ?_ | refine splitF ?_) | ((with_reducible refine splitM.mk (fun hsm => ?_) (fun hsm => ?_)) <;> (try exact zx)) | ((with_reducible refine splitB.mk (fun h => ?_) (fun h => ?_)) <;> (try simp only [zs, ne_eq] at h) <;> (try simp (disch := omega) only [w64] at h) <;> (try exact zx)) | (with_reducible intro hz; (try exact absurd hz (Nat.succ_ne_zero _)))))
  · intro ⟨i, ⟨⟨cp, cq⟩, cr, cs⟩⟩ ⟨hi, hm⟩
    dsimp only at hi hm ⊢
    have hc := mtN_ok hW hm
    by_cases hlt : i < n
    · obtain ⟨⟨⟨p, q⟩, r, s1⟩, ha⟩ := get_some (l := seg l s n) (i := i) (by omega)
      have hw := hW _ (List.mem_of_getElem? ha)
      have hst := mtN_step hm ha
      cases hk : mtOk ((cp, cq), cr, cs) ((p, q), r, s1) with
      | false =>
        rw [hk, if_neg (by simp)] at hst
        have hnn : mtN (seg l s n) n = none := by have := mtN_none hst (n - (i + 1)); rwa [show i + 1 + (n - (i + 1)) = n by omega] at this
        (repeat' ((try (conv => whnf)); first | (with_reducible first | refine And.intro ?_ ?_ | refine WX.of ?_) | exact zc | ((with_reducible refine VC.mk ?_); exact zw) | with_reducible refine atL_i ha ?_ | ((with_reducible refine VC.mk ?_); exact ⟨hc, hw⟩) | (with_reducible first | refine splitT ?_ | refine splitF ?_) | ((with_reducible refine splitM.mk (fun hsm => ?_) (fun hsm => ?_)) <;> (try exact zx)) | ((with_reducible refine splitB.mk (fun h => ?_) (fun h => ?_)) <;> (try simp only [zs, ne_eq] at h) <;> (try simp (disch := omega) only [w64] at h) <;> (try exact zx)) | (with_reducible intro hz; (try exact absurd hz (Nat.succ_ne_zero _)))))
        · exact ⟨by simp [hnn, hk]⟩
        · simp [hk] at h
      | true =>
        rw [hk, if_pos rfl] at hst
        (repeat' ((try (conv => whnf)); first | (with_reducible first | refine And.intro ?_ ?_ | refine WX.of ?_) | exact zc | ((with_reducible refine VC.mk ?_); exact zw) | with_reducible refine atL_i ha ?_ | ((with_reducible refine VC.mk ?_); exact ⟨hc, hw⟩) | (with_reducible first | refine splitT ?_ | refine splitF ?_) | ((with_reducible refine splitM.mk (fun hsm => ?_) (fun hsm => ?_)) <;> (try exact zx)) | ((with_reducible refine splitB.mk (fun h => ?_) (fun h => ?_)) <;> (try simp only [zs, ne_eq] at h) <;> (try simp (disch := omega) only [w64] at h) <;> (try exact zx)) | (with_reducible intro hz; (try exact absurd hz (Nat.succ_ne_zero _)))))
        · simp [hk] at h
        · refine ⟨(i + 1, mtS ((cp, cq), cr, cs) ((p, q), r, s1)), by dsimp only; omega, ⟨hlt, hst⟩, ?_⟩
          (repeat' ((try (conv => whnf)); first | (with_reducible first | refine And.intro ?_ ?_ | refine WX.of ?_) | exact zc | ((with_reducible refine VC.mk ?_); exact zw) | (with_reducible first | refine splitT ?_ | refine splitF ?_) | ((with_reducible refine splitM.mk (fun hsm => ?_) (fun hsm => ?_)) <;> (try exact zx)) | ((with_reducible refine splitB.mk (fun h => ?_) (fun h => ?_)) <;> (try simp only [zs, ne_eq] at h) <;> (try simp (disch := omega) only [w64] at h) <;> (try exact zx)) | (with_reducible intro hz; (try exact absurd hz (Nat.succ_ne_zero _)))))
          all_goals (refine ⟨?_⟩; simp only [hk, if_true]; rfl)
    · obtain rfl : i = n := by omega
      rw [hm]
      (repeat' ((try (conv => whnf)); first | (with_reducible first | refine And.intro ?_ ?_ | refine WX.of ?_) | exact zc | ((with_reducible refine VC.mk ?_); exact zw) | (with_reducible first | refine splitT ?_ | refine splitF ?_) | ((with_reducible refine splitM.mk (fun hsm => ?_) (fun hsm => ?_)) <;> (try exact zx)) | ((with_reducible refine splitB.mk (fun h => ?_) (fun h => ?_)) <;> (try simp only [zs, ne_eq] at h) <;> (try simp (disch := omega) only [w64] at h) <;> (try exact zx)) | (with_reducible intro hz; (try exact absurd hz (Nat.succ_ne_zero _)))))
end Go.Proofs.YtbmejhabgoimeaaGreat.Eng
set_option linter.unusedVariables false
set_option linter.unusedSimpArgs false
namespace Go.Proofs.YtbmejhabgoimeaaGreat.Eng
open Go Go.RowKit
set_option maxRecDepth 100000
def s_rqc : Spec := fun args S => match args, S with
  | [.int .i64 i, .ptr 0 0 0], [.box [.int .i64 up, .int .i64 uq, .sl 1 s n x, .int .i64 vp, .bool vb, .int .i64 gp, .int .i64 gq, .sl 2 t m y] true false, .arr (.prod (.int .i64) (.int .i64)) l 2 wr, .arr (.prod .str (.prod (.prod (.int .i64) (.int .i64)) (.prod (.int .i64) (.int .i64)))) T 5 wT] => ⟨m ≤ 1048576, .bool (!decide (0 ≤ i ∧ i ≤ (m : Int) - 1)), [.box [.int .i64 up, .int .i64 uq, .sl 1 s n x, .int .i64 vp, .bool vb, .int .i64 gp, .int .i64 gq, .sl 2 t m y] true false, .arr (.prod (.int .i64) (.int .i64)) l 2 wr, .arr (.prod .str (.prod (.prod (.int .i64) (.int .i64)) (.prod (.int .i64) (.int .i64)))) T 5 wT]⟩
  | _, _ => noSpec
theorem ok_rqc : SpecOk Tryz.prog 99 s_rqc := by
  intro args S h; unfold s_rqc at h ⊢; (split at h <;> first | exact False.elim h | skip)
  dsimp only at h ⊢
  refine funW tabOk (E := [(100, s_isThing)]) ⟨ok_isThing, trivial⟩ [] (k := 3) (fn := Tryz.f99) rfl rfl rfl rfl rfl rfl ?_
  (repeat' ((try (conv => whnf)); first | (with_reducible first | refine And.intro ?_ ?_ | refine WX.of ?_) | exact zc | ((with_reducible refine VC.mk ?_); exact zw) | (with_reducible first | refine splitT ?_ | refine splitF ?_) | ((with_reducible refine splitM.mk (fun hsm => ?_) (fun hsm => ?_)) <;> (try exact zx)) | ((with_reducible refine splitB.mk (fun h => ?_) (fun h => ?_)) <;> (try simp only [zs, ne_eq] at h) <;> (try simp (disch := omega) only [w64] at h) <;> (try exact zx)) | (with_reducible intro hz; (try exact absurd hz (Nat.succ_ne_zero _)))))
def outB (m : Nat) (i : Int) : Bool := !decide (0 ≤ i ∧ i ≤ (m : Int) - 1)
def s_idxRq (g : Nat) : Spec := fun args S => match args, S with
  | [.sl 0 q0 n0 x0, .fn g' [.ptr 1 0 0]], [.arr (.int .i64) l0 1 wr0, .box [.int .i64 up, .int .i64 uq, .sl 2 s n x, .int .i64 vp, .bool vb, .int .i64 gp, .int .i64 gq, .sl 3 t m y] true false, .arr (.prod (.int .i64) (.int .i64)) l 2 wr, .arr (.prod .str (.prod (.prod (.int .i64) (.int .i64)) (.prod (.int .i64) (.int .i64)))) T 5 wT] => ⟨g' = g ∧ (q0 + n0 ≤ l0.length ∧ n0 ≤ 4611686018427387904) ∧ m ≤ 1048576, .int .i64 (findI (outB m) (seg l0 q0 n0)), [.arr (.int .i64) l0 1 wr0, .box [.int .i64 up, .int .i64 uq, .sl 2 s n x, .int .i64 vp, .bool vb, .int .i64 gp, .int .i64 gq, .sl 3 t m y] true false, .arr (.prod (.int .i64) (.int .i64)) l 2 wr, .arr (.prod .str (.prod (.prod (.int .i64) (.int .i64)) (.prod (.int .i64) (.int .i64)))) T 5 wT]⟩
  | _, _ => noSpec
theorem ok_idxRq : SpecOk Tryz.prog 137 (s_idxRq 99) := by
  intro args S h; unfold s_idxRq at h ⊢; (split at h <;> first | exact False.elim h | skip)
  dsimp only at h ⊢
  rename_i q0 n0 x0 g l0 wr0 up uq s n x vp vb gp gq t m y l wr T wT
  obtain ⟨rfl, ⟨h1, h2⟩, hcp⟩ := h
  have hL := seg_len h1
  refine funW tabOk (E := [(99, s_rqc)]) ⟨ok_rqc, trivial⟩ [] (k := 4) (fn := Tryz.f137) rfl rfl rfl rfl rfl rfl ?_
  (repeat' ((try (conv => whnf)); first | (with_reducible first | refine And.intro ?_ ?_ | refine WX.of ?_) | exact zc | ((with_reducible refine VC.mk ?_); exact zw) | (with_reducible first | refine splitT ?_ | refine splitF ?_) | ((with_reducible refine splitM.mk (fun hsm => ?_) (fun hsm => ?_)) <;> (try exact zx)) | ((with_reducible refine splitB.mk (fun h => ?_) (fun h => ?_)) <;> (try simp only [zs, ne_eq] at h) <;> (try simp (disch := omega) only [w64] at h) <;> (try exact zx)) | (with_reducible intro hz; (try exact absurd hz (Nat.succ_ne_zero _)))))
  refine loopW tabOk (E := [(99, s_rqc)]) ⟨ok_rqc, trivial⟩ [] (σ := Nat) (fun i => [(0, .sl 0 q0 n0 x0), (1, .fn 99 [.ptr 1 0 0]), (7, .int .i64 n0), (8, .int .i64 i)]) (fun i => [.arr (.int .i64) l0 1 wr0, .box [.int .i64 up, .int .i64 uq, .sl 2 s n x, .int .i64 vp, .bool vb, .int .i64 gp, .int .i64 gq, .sl 3 t m y] true false, .arr (.prod (.int .i64) (.int .i64)) l 2 wr, .arr (.prod .str (.prod (.prod (.int .i64) (.int .i64)) (.prod (.int .i64) (.int .i64)))) T 5 wT]) (fun i => n0 - i) (fun i => i ≤ n0 ∧ ∀ (j : Nat) a, j < i → (seg l0 q0 n0)[j]? = some a → (outB m) a = false) 0 ⟨Nat.zero_le _, fun j a hj => by omega⟩ ?_ ?_
  · (repeat' ((try (conv => whnf)); first | (with_reducible first | refine And.intro ?_ ?_ | refine WX.of ?_) | exact zc | ((with_reducible refine VC.mk ?_); exact zw) | (with_reducible first | refine splitT ?_ | refine splitF ?_) | ((with_reducible refine splitM.mk (fun hsm => ?_) (fun hsm => ?_)) <;> (try exact zx)) | ((with_reducible refine splitB.mk (fun h => ?_) (fun h => ?_)) <;> (try simp only [zs, ne_eq] at h) <;> (try simp (disch := omega) only [w64] at h) <;> (try exact zx)) | (with_reducible intro hz; (try exact absurd hz (Nat.succ_ne_zero _)))))
  · intro ii ⟨hi, hp⟩
    by_cases hlt : ii < n0
    · obtain ⟨a, ha⟩ := get_some (l := seg l0 q0 n0) (i := ii) (by omega)
      (repeat' ((try (conv => whnf)); first | (with_reducible first | refine And.intro ?_ ?_ | refine WX.of ?_) | exact zc | ((with_reducible refine VC.mk ?_); exact zw) | refine atL_i ha ?_ | ((with_reducible refine VC.mk ?_); exact hcp) | (with_reducible first | refine splitT ?_ | refine splitF ?_) | ((with_reducible refine splitM.mk (fun hsm => ?_) (fun hsm => ?_)) <;> (try exact zx)) | ((with_reducible refine splitB.mk (fun h => ?_) (fun h => ?_)) <;> (try simp only [zs, ne_eq] at h) <;> (try simp (disch := omega) only [w64] at h) <;> (try exact zx)) | (with_reducible intro hz; (try exact absurd hz (Nat.succ_ne_zero _)))))
      · exact ⟨by rw [findI_some ha (by first | (simpa [outB] using h; done) | (simp [outB] at h ⊢; omega)) hp]⟩
      · refine ⟨ii + 1, by omega, ⟨hlt, upto_step ha (by first | (simpa [outB] using h; done) | (simp [outB] at h ⊢; omega)) hp⟩, ?_⟩
        (repeat' ((try (conv => whnf)); first | (with_reducible first | refine And.intro ?_ ?_ | refine WX.of ?_) | exact zc | ((with_reducible refine VC.mk ?_); exact zw) | (with_reducible first | refine splitT ?_ | refine splitF ?_) | ((with_reducible refine splitM.mk (fun hsm => ?_) (fun hsm => ?_)) <;> (try exact zx)) | ((with_reducible refine splitB.mk (fun h => ?_) (fun h => ?_)) <;> (try simp only [zs, ne_eq] at h) <;> (try simp (disch := omega) only [w64] at h) <;> (try exact zx)) | (with_reducible intro hz; (try exact absurd hz (Nat.succ_ne_zero _)))))
    · (repeat' ((try (conv => whnf)); first | (with_reducible first | refine And.intro ?_ ?_ | refine WX.of ?_) | exact zc | ((with_reducible refine VC.mk ?_); exact zw) | (with_reducible first | refine splitT ?_ | refine splitF ?_) | ((with_reducible refine splitM.mk (fun hsm => ?_) (fun hsm => ?_)) <;> (try exact zx)) | ((with_reducible refine splitB.mk (fun h => ?_) (fun h => ?_)) <;> (try simp only [zs, ne_eq] at h) <;> (try simp (disch := omega) only [w64] at h) <;> (try exact zx)) | (with_reducible intro hz; (try exact absurd hz (Nat.succ_ne_zero _)))))
      exact ⟨by rw [findI_none fun j a hj => hp j a (by have := (List.getElem?_eq_some_iff.1 hj).1; omega) hj]⟩
def s_anyRq (g : Nat) : Spec := fun args S => match args, S with
  | [.sl 0 q0 n0 x0, .fn g' [.ptr 1 0 0]], [.arr (.int .i64) l0 1 wr0, .box [.int .i64 up, .int .i64 uq, .sl 2 s n x, .int .i64 vp, .bool vb, .int .i64 gp, .int .i64 gq, .sl 3 t m y] true false, .arr (.prod (.int .i64) (.int .i64)) l 2 wr, .arr (.prod .str (.prod (.prod (.int .i64) (.int .i64)) (.prod (.int .i64) (.int .i64)))) T 5 wT] => ⟨g' = g ∧ (q0 + n0 ≤ l0.length ∧ n0 ≤ 4611686018427387904) ∧ m ≤ 1048576, .bool ((seg l0 q0 n0).any (outB m)), [.arr (.int .i64) l0 1 wr0, .box [.int .i64 up, .int .i64 uq, .sl 2 s n x, .int .i64 vp, .bool vb, .int .i64 gp, .int .i64 gq, .sl 3 t m y] true false, .arr (.prod (.int .i64) (.int .i64)) l 2 wr, .arr (.prod .str (.prod (.prod (.int .i64) (.int .i64)) (.prod (.int .i64) (.int .i64)))) T 5 wT]⟩
  | _, _ => noSpec
theorem ok_anyRq : SpecOk Tryz.prog 98 (s_anyRq 99) := by
  intro args S h; unfold s_anyRq at h ⊢; (split at h <;> first | exact False.elim h | skip)
  dsimp only at h ⊢
  rename_i q0 n0 x0 g l0 wr0 up uq s n x vp vb gp gq t m y l wr T wT
  obtain ⟨rfl, h1, h2⟩ := h
  refine funW tabOk (E := [(137, (s_idxRq 99))]) ⟨ok_idxRq, trivial⟩ [] (k := 4) (fn := Tryz.f98) rfl rfl rfl rfl rfl rfl ?_
  (repeat' ((try (conv => whnf)); first | (with_reducible first | refine And.intro ?_ ?_ | refine WX.of ?_) | exact zc | ((with_reducible refine VC.mk ?_); exact zw) | (with_reducible first | refine splitT ?_ | refine splitF ?_) | ((with_reducible refine splitM.mk (fun hsm => ?_) (fun hsm => ?_)) <;> (try exact zx)) | ((with_reducible refine splitB.mk (fun h => ?_) (fun h => ?_)) <;> (try simp only [zs, ne_eq] at h) <;> (try simp (disch := omega) only [w64] at h) <;> (try exact zx)) | (with_reducible intro hz; (try exact absurd hz (Nat.succ_ne_zero _)))))
  exact ⟨by rw [findI_any]⟩
/-- The code of reports and things. -/
def rqC (bn : Bool) (k : Nat) (bad : Bool) (f : Int) : Int := if bn = true then (if 40 < k ∨ bad = true then 2 else if f < 0 then 0 else 8) else 1
def s_rqC : Spec := fun args S => match args, S with
  | [.agg [.int .i64 up, .int .i64 uq, .sl 0 s n x, .int .i64 vp, .bool vb, .int .i64 gp, .int .i64 gq, .sl 1 t m y], .sl 2 q k z, .sl 3 c w x1], [.arr (.prod (.int .i64) (.int .i64)) l 2 wr, .arr (.prod .str (.prod (.prod (.int .i64) (.int .i64)) (.prod (.int .i64) (.int .i64)))) T 5 wT, .arr (.prod (.prod (.int .i64) (.prod (.prod (.int .i64) (.int .i64)) (.prod (.int .i64) (.int .i64)))) (.prod (.prod (.int .i64) (.int .i64)) (.prod (.prod (.int .i64) (.int .i64)) (.prod (.prod (.int .i64) (.int .i64)) (.prod (.prod (.int .i64) (.int .i64)) (.prod (.int .i64) (.int .i64))))))) L 15 wL, .arr (.int .i64) W 1 wW] => ⟨(((s + n ≤ l.length ∧ n ≤ 1048576) ∧ (t + m ≤ T.length ∧ m ≤ 1048576) ∧ ∀ (j : Nat) (a : ThT), T[j]? = some a → a.1.length < 4611686018427387904) ∧ q + k ≤ L.length ∧ k ≤ 1048576) ∧ c + w ≤ W.length ∧ w ≤ 1048576, .int .i64 (rqC (bnB up uq vp gp gq (seg l s n) (seg T t m)) k ((seg W c w).any (outB m)) (ckI (up, uq) (seg l s n) vp vb (gp, gq) (seg T t m) (seg L q k))), [.arr (.prod (.int .i64) (.int .i64)) l 2 wr, .arr (.prod .str (.prod (.prod (.int .i64) (.int .i64)) (.prod (.int .i64) (.int .i64)))) T 5 wT, .arr (.prod (.prod (.int .i64) (.prod (.prod (.int .i64) (.int .i64)) (.prod (.int .i64) (.int .i64)))) (.prod (.prod (.int .i64) (.int .i64)) (.prod (.prod (.int .i64) (.int .i64)) (.prod (.prod (.int .i64) (.int .i64)) (.prod (.prod (.int .i64) (.int .i64)) (.prod (.int .i64) (.int .i64))))))) L 15 wL, .arr (.int .i64) W 1 wW]⟩
  | _, _ => noSpec
attribute [local irreducible] bnB ckI in
set_option maxHeartbeats 1600000 in
theorem ok_reportsCode : SpecOk Tryz.prog 53 s_rqC := by
  intro args S h; unfold s_rqC at h ⊢; (split at h <;> first | exact False.elim h | skip)
  dsimp only at h ⊢
  rename_i up uq s n x vp vb gp gq t m y q k z c w x1 l wr T wT L wL W wW
  obtain ⟨⟨hq, hk⟩, hw⟩ := h
  cases hb : bnB up uq vp gp gq (seg l s n) (seg T t m) with
  | false =>
    refine funW tabOk (E := [(50, s_vBench)]) ⟨ok_ValidBenchI, trivial⟩ [] (k := 4) (fn := Tryz.f53) rfl rfl rfl rfl rfl rfl ?_
    (repeat' ((try (conv => whnf)); first | (with_reducible first | refine And.intro ?_ ?_ | refine WX.of ?_) | exact zc | ((with_reducible refine VC.mk ?_); exact zw) | ((with_reducible refine splitT_of ?_ ?_); (focus (simp only [hb, Bool.not_true, Bool.not_false, decide_true, decide_false]; done))) | ((with_reducible refine splitF_of ?_ ?_); (focus (simp only [hb, Bool.not_true, Bool.not_false, decide_true, decide_false]; done))) | ((with_reducible refine VC.mk ?_); exact hq) | (with_reducible first | refine splitT ?_ | refine splitF ?_) | ((with_reducible refine splitM.mk (fun hsm => ?_) (fun hsm => ?_)) <;> (try exact zx)) | ((with_reducible refine splitB.mk (fun h => ?_) (fun h => ?_)) <;> (try simp only [zs, ne_eq] at h) <;> (try simp (disch := omega) only [w64] at h) <;> (try exact zx)) | (with_reducible intro hz; (try exact absurd hz (Nat.succ_ne_zero _)))))
  | true =>
    refine funW tabOk (E := [(50, s_vBench), (98, (s_anyRq 99)), (22, s_chks)]) ⟨ok_ValidBenchI, ok_anyRq, ok_CheckReportsI, trivial⟩ [] (k := 4) (fn := Tryz.f53) rfl rfl rfl rfl rfl rfl ?_
    (repeat' ((try (conv => whnf)); first | (with_reducible first | refine And.intro ?_ ?_ | refine WX.of ?_) | exact zc | ((with_reducible refine VC.mk ?_); exact zw) | ((with_reducible refine splitT_of ?_ ?_); (focus (simp only [hb, Bool.not_true, Bool.not_false, decide_true, decide_false]; done))) | ((with_reducible refine splitF_of ?_ ?_); (focus (simp only [hb, Bool.not_true, Bool.not_false, decide_true, decide_false]; done))) | ((with_reducible refine VC.mk ?_); exact hq) | ((with_reducible refine VC.mk ?_); exact ⟨rfl, ⟨hw.1, by omega⟩, hq.2.1.2⟩) | ((with_reducible refine VC.mk ?_); exact ⟨hq, hk⟩) | (with_reducible first | refine splitT ?_ | refine splitF ?_) | ((with_reducible refine splitM.mk (fun hsm => ?_) (fun hsm => ?_)) <;> (try exact zx)) | ((with_reducible refine splitB.mk (fun h => ?_) (fun h => ?_)) <;> (try simp only [zs, ne_eq] at h) <;> (try simp (disch := omega) only [w64] at h) <;> (try exact zx)) | (with_reducible intro hz; (try exact absurd hz (Nat.succ_ne_zero _)))))
    · exact ⟨by unfold rqC; rw [if_pos rfl, if_pos (.inl (by omega))]⟩
    · exact ⟨by unfold rqC; rw [if_pos rfl, if_pos (.inr h)]⟩
    · rename_i hk40 hno
      rw [hb] at h
      unfold ckC at h
      rw [if_pos rfl, if_neg (by omega)] at h
      exact ⟨by unfold rqC; rw [if_pos rfl, if_neg (by rw [hno]; simp; omega), if_neg (fun e => by rw [if_pos e] at h; omega)]⟩
    · rename_i hk40 hno
      rw [hb] at h
      unfold ckC at h
      rw [if_pos rfl, if_neg (by omega)] at h
      exact ⟨by unfold rqC; rw [if_pos rfl, if_neg (by rw [hno]; simp; omega), if_pos (Classical.byContradiction fun e => h (by rw [if_neg e]))]⟩
def s_asked : Spec := fun args S => match args, S with
  | [.ptr 0 0 0, .sl 1 q k z, .int .i64 a, .int .i64 b], [.box [.int .i64 up, .int .i64 uq, .sl 2 s n x, .int .i64 vp, .bool vb, .int .i64 gp, .int .i64 gq, .sl 3 t m y] true false, .arr (.prod (.prod (.int .i64) (.prod (.prod (.int .i64) (.int .i64)) (.prod (.int .i64) (.int .i64)))) (.prod (.prod (.int .i64) (.int .i64)) (.prod (.prod (.int .i64) (.int .i64)) (.prod (.prod (.int .i64) (.int .i64)) (.prod (.prod (.int .i64) (.int .i64)) (.prod (.int .i64) (.int .i64))))))) L 15 wL, .arr (.prod (.int .i64) (.int .i64)) l 2 wr, .arr (.prod .str (.prod (.prod (.int .i64) (.int .i64)) (.prod (.int .i64) (.int .i64)))) T 5 wT] => ⟨((s + n ≤ l.length ∧ n ≤ 1048576) ∧ (t + m ≤ T.length ∧ m ≤ 1048576) ∧ ∀ (j : Nat) (a : ThT), T[j]? = some a → a.1.length < 4611686018427387904) ∧ q + k ≤ L.length ∧ k ≤ 1048576, .int .i64 (rqC (bnB up uq vp gp gq (seg l s n) (seg T t m)) k (outB m a || outB m b) (ckI (up, uq) (seg l s n) vp vb (gp, gq) (seg T t m) (seg L q k))), [.box [.int .i64 up, .int .i64 uq, .sl 2 s n x, .int .i64 vp, .bool vb, .int .i64 gp, .int .i64 gq, .sl 3 t m y] true false, .arr (.prod (.prod (.int .i64) (.prod (.prod (.int .i64) (.int .i64)) (.prod (.int .i64) (.int .i64)))) (.prod (.prod (.int .i64) (.int .i64)) (.prod (.prod (.int .i64) (.int .i64)) (.prod (.prod (.int .i64) (.int .i64)) (.prod (.prod (.int .i64) (.int .i64)) (.prod (.int .i64) (.int .i64))))))) L 15 wL, .arr (.prod (.int .i64) (.int .i64)) l 2 wr, .arr (.prod .str (.prod (.prod (.int .i64) (.int .i64)) (.prod (.int .i64) (.int .i64)))) T 5 wT]⟩
  | _, _ => noSpec
attribute [local irreducible] bnB accB in
set_option maxHeartbeats 1600000 in
theorem ok_l07Asked : SpecOk Tryz.prog 51 s_asked := by
  intro args S h; unfold s_asked at h ⊢; (split at h <;> first | exact False.elim h | skip)
  dsimp only at h ⊢
  rename_i q k z a b up uq s n x vp vb gp gq t m y L wL l wr T wT
  obtain ⟨hq, hk⟩ := h
  have hLk := seg_len hk.1
  cases hb : bnB up uq vp gp gq (seg l s n) (seg T t m) with
  | false =>
    refine funW tabOk (E := [(47, s_l07Ok)]) ⟨ok_l07Ok, trivial⟩ [] (k := 4) (fn := Tryz.f51) rfl rfl rfl rfl rfl rfl ?_
    (repeat' ((try (conv => whnf)); first | (with_reducible first | refine And.intro ?_ ?_ | refine WX.of ?_) | exact zc | ((with_reducible refine VC.mk ?_); exact zw) | ((with_reducible refine splitT_of ?_ ?_); (focus (simp only [hb, Bool.not_true, Bool.not_false, decide_true, decide_false]; done))) | ((with_reducible refine splitF_of ?_ ?_); (focus (simp only [hb, Bool.not_true, Bool.not_false, decide_true, decide_false]; done))) | ((with_reducible refine VC.mk ?_); exact hq) | (with_reducible first | refine splitT ?_ | refine splitF ?_) | ((with_reducible refine splitM.mk (fun hsm => ?_) (fun hsm => ?_)) <;> (try exact zx)) | ((with_reducible refine splitB.mk (fun h => ?_) (fun h => ?_)) <;> (try simp only [zs, ne_eq] at h) <;> (try simp (disch := omega) only [w64] at h) <;> (try exact zx)) | (with_reducible intro hz; (try exact absurd hz (Nat.succ_ne_zero _)))))
  | true =>
    have hwm : IntKind.i64.wrap ((m : Int) - 1) = (m : Int) - 1 := w64 (by omega)
    refine funW tabOk (E := [(47, s_l07Ok), (96, s_within), (48, s_accJ)]) ⟨ok_l07Ok, ok_l00In, ok_accJ, trivial⟩ [] (k := 4) (fn := Tryz.f51) rfl rfl rfl rfl rfl rfl ?_
    (repeat' ((try (conv => whnf)); first | (with_reducible first | refine And.intro ?_ ?_ | refine WX.of ?_) | exact zc | ((with_reducible refine VC.mk ?_); exact zw) | ((with_reducible refine splitT_of ?_ ?_); (focus (simp only [hb, Bool.not_true, Bool.not_false, decide_true, decide_false]; done))) | ((with_reducible refine splitF_of ?_ ?_); (focus (simp only [hb, Bool.not_true, Bool.not_false, decide_true, decide_false]; done))) | ((with_reducible refine VC.mk ?_); exact hq) | (with_reducible first | refine splitT ?_ | refine splitF ?_) | ((with_reducible refine splitM.mk (fun hsm => ?_) (fun hsm => ?_)) <;> (try exact zx)) | ((with_reducible refine splitB.mk (fun h => ?_) (fun h => ?_)) <;> (try simp only [zs, ne_eq] at h) <;> (try simp (disch := omega) only [w64] at h) <;> (try exact zx)) | (with_reducible intro hz; (try exact absurd hz (Nat.succ_ne_zero _)))))
    · exact ⟨by unfold rqC; rw [if_pos rfl, if_pos (.inl (by omega))]⟩
    · have ha : outB m a = true := by unfold outB; rw [decide_eq_false h]; rfl
      exact ⟨by unfold rqC; rw [if_pos rfl, if_pos (.inr (by rw [ha]; rfl))]⟩
    · have ha : outB m b = true := by unfold outB; rw [decide_eq_false h]; rfl
      exact ⟨by unfold rqC; rw [if_pos rfl, if_pos (.inr (by rw [ha, Bool.or_true]))]⟩
    · rename_i hk40 hina
      have ho : ¬ (40 < k ∨ (outB m a || outB m b) = true) := by
        have e1 : outB m a = false := by unfold outB; rw [decide_eq_true hina]; rfl
        have e2 : outB m b = false := by unfold outB; rw [decide_eq_true h]; rfl
        rw [e1, e2]; simp; omega
      refine loopW tabOk (E := [(47, s_l07Ok), (96, s_within), (48, s_accJ)]) ⟨ok_l07Ok, ok_l00In, ok_accJ, trivial⟩ [] (σ := Nat) (fun i => [(0, .ptr 0 0 0), (1, .sl 1 q k z), (10, .int .i64 i)]) (fun i => [.box [.int .i64 up, .int .i64 uq, .sl 2 s n x, .int .i64 vp, .bool vb, .int .i64 gp, .int .i64 gq, .sl 3 t m y] true false, .arr (.prod (.prod (.int .i64) (.prod (.prod (.int .i64) (.int .i64)) (.prod (.int .i64) (.int .i64)))) (.prod (.prod (.int .i64) (.int .i64)) (.prod (.prod (.int .i64) (.int .i64)) (.prod (.prod (.int .i64) (.int .i64)) (.prod (.prod (.int .i64) (.int .i64)) (.prod (.int .i64) (.int .i64))))))) L 15 wL, .arr (.prod (.int .i64) (.int .i64)) l 2 wr, .arr (.prod .str (.prod (.prod (.int .i64) (.int .i64)) (.prod (.int .i64) (.int .i64)))) T 5 wT]) (fun i => k - i) (fun i => i ≤ k ∧ ∀ (j : Nat) r, j < i → (seg L q k)[j]? = some r → (!accB (up, uq) (seg l s n) vp vb (gp, gq) (seg T t m) r) = false) 0 ⟨Nat.zero_le _, fun j r hj => by omega⟩ ?_ ?_
      · (repeat' ((try (conv => whnf)); first | (with_reducible first | refine And.intro ?_ ?_ | refine WX.of ?_) | exact zc | ((with_reducible refine VC.mk ?_); exact zw) | (with_reducible first | refine splitT ?_ | refine splitF ?_) | ((with_reducible refine splitM.mk (fun hsm => ?_) (fun hsm => ?_)) <;> (try exact zx)) | ((with_reducible refine splitB.mk (fun h => ?_) (fun h => ?_)) <;> (try simp only [zs, ne_eq] at h) <;> (try simp (disch := omega) only [w64] at h) <;> (try exact zx)) | (with_reducible intro hz; (try exact absurd hz (Nat.succ_ne_zero _)))))
      · intro i ⟨hi, hp⟩
        by_cases hlt : i < k
        · obtain ⟨r, ha⟩ := get_some (l := seg L q k) (i := i) (by omega)
          have hLr := (seg_get ha).1
          have hd : (L[q + ((i : Nat) : Int).toNat]?).getD rp0 = r := by rw [Int.toNat_natCast, hLr]; rfl
          (repeat' ((try (conv => whnf)); first | (with_reducible first | refine And.intro ?_ ?_ | refine WX.of ?_) | exact zc | ((with_reducible refine VC.mk ?_); exact zw) | ((with_reducible refine VC.mk ?_); exact ⟨⟨hq.1, hq.2.1⟩, hb, (by omega)⟩) | (with_reducible first | refine splitT ?_ | refine splitF ?_) | ((with_reducible refine splitM.mk (fun hsm => ?_) (fun hsm => ?_)) <;> (try exact zx)) | ((with_reducible refine splitB.mk (fun h => ?_) (fun h => ?_)) <;> (try simp only [zs, ne_eq] at h) <;> (try simp (disch := omega) only [w64] at h) <;> (try exact zx)) | (with_reducible intro hz; (try exact absurd hz (Nat.succ_ne_zero _)))))
          · rw [hd] at h
            have hf : ckI (up, uq) (seg l s n) vp vb (gp, gq) (seg T t m) (seg L q k) = (i : Int) := findI_some ha (by rw [h]; rfl) hp
            exact ⟨by unfold rqC; rw [if_pos rfl, if_neg ho, hf, if_neg (by omega)]⟩
          · rw [hd] at h
            have hacc := h
            refine ⟨i + 1, by omega, ⟨hlt, fun j r' hj hr' => ?_⟩, ?_⟩
            · by_cases e : j < i
              · exact hp j r' e hr'
              · obtain rfl : j = i := by omega
                rw [ha] at hr'; obtain rfl := Option.some.inj hr'
                rw [hacc]; rfl
            (repeat' ((try (conv => whnf)); first | (with_reducible first | refine And.intro ?_ ?_ | refine WX.of ?_) | exact zc | ((with_reducible refine VC.mk ?_); exact zw) | (with_reducible first | refine splitT ?_ | refine splitF ?_) | ((with_reducible refine splitM.mk (fun hsm => ?_) (fun hsm => ?_)) <;> (try exact zx)) | ((with_reducible refine splitB.mk (fun h => ?_) (fun h => ?_)) <;> (try simp only [zs, ne_eq] at h) <;> (try simp (disch := omega) only [w64] at h) <;> (try exact zx)) | (with_reducible intro hz; (try exact absurd hz (Nat.succ_ne_zero _)))))
        · obtain rfl : i = k := by omega
          have hf : ckI (up, uq) (seg l s n) vp vb (gp, gq) (seg T t m) (seg L q i) = -1 := findI_none fun j r hr => hp j r (by have := (List.getElem?_eq_some_iff.1 hr).1; omega) hr
          (repeat' ((try (conv => whnf)); first | (with_reducible first | refine And.intro ?_ ?_ | refine WX.of ?_) | exact zc | ((with_reducible refine VC.mk ?_); exact zw) | (with_reducible first | refine splitT ?_ | refine splitF ?_) | ((with_reducible refine splitM.mk (fun hsm => ?_) (fun hsm => ?_)) <;> (try exact zx)) | ((with_reducible refine splitB.mk (fun h => ?_) (fun h => ?_)) <;> (try simp only [zs, ne_eq] at h) <;> (try simp (disch := omega) only [w64] at h) <;> (try exact zx)) | (with_reducible intro hz; (try exact absurd hz (Nat.succ_ne_zero _)))))
          exact ⟨by unfold rqC; rw [if_pos rfl, if_neg ho, hf, if_pos (by decide)]⟩
end Go.Proofs.YtbmejhabgoimeaaGreat.Eng
set_option linter.unusedVariables false
set_option linter.unusedSimpArgs false
namespace Go.Proofs.YtbmejhabgoimeaaGreat.Eng
open Go Go.RowKit
set_option maxRecDepth 100000
theorem kp_step {α : Type} {p : α → Bool} {l : List α} {j : Nat} {a : α} (ha : l[j]? = some a) : (l.take (j + 1)).filter p = (l.take j).filter p ++ (if p a = true then [a] else []) := by
  rw [List.take_add_one, ha, List.filter_append]
  simp only [Option.toList_some]
  cases h : p a <;> simp [List.filter, h]
theorem kp_set {α : Type} {K l : List α} {a : α} (h : K.length < l.length) : (K ++ l.drop K.length).set K.length a = (K ++ [a]) ++ l.drop (K ++ [a]).length := by
  rw [List.set_append_right _ _ (by omega), Nat.sub_self]
  obtain ⟨b, r, e⟩ : ∃ b r, l.drop K.length = b :: r := by
    cases hd : l.drop K.length with
    | nil => rw [List.drop_eq_nil_iff] at hd; omega
    | cons b r => exact ⟨b, r, rfl⟩
  have e2 : l.drop (K ++ [a]).length = r := by
    rw [List.length_append, List.length_singleton, ← List.drop_drop, e]; rfl
  rw [e, e2]
  simp
theorem kp_get {α : Type} {K l : List α} {j : Nat} (hK : K.length ≤ j) : (K ++ l.drop K.length)[j]? = l[j]? := by
  rw [List.getElem?_append_right hK, List.getElem?_drop]
  congr 1; omega
theorem kp_len {α : Type} {K l : List α} (hK : K.length ≤ l.length) : (K ++ l.drop K.length).length = l.length := by
  rw [List.length_append, List.length_drop]; omega
theorem kp_all {α : Type} {p : α → Bool} {l : List α} {i : Nat} (h : ∀ (j : Nat) a, j < i → l[j]? = some a → p a = true) : (l.take i).filter p = l.take i := by
  rw [List.filter_eq_self]
  intro a ha
  obtain ⟨j, hj⟩ := List.getElem?_of_mem ha
  rw [List.getElem?_take] at hj
  split at hj
  · exact h j a (by assumption) hj
  · simp at hj
theorem findI_c {α : Type} {p : α → Bool} {l : List α} : (findI p l = -1 ∧ ∀ (j : Nat) a, l[j]? = some a → p a = false) ∨ ∃ (i : Nat) (a : α), findI p l = i ∧ l[i]? = some a ∧ p a = true ∧ ∀ (j : Nat) b, j < i → l[j]? = some b → p b = false := by
  unfold findI
  by_cases h : l.any p = true
  · right
    rw [if_pos h]
    have hl : l.findIdx p < l.length := List.findIdx_lt_length.2 (List.any_eq_true.1 h)
    refine ⟨l.findIdx p, l[l.findIdx p], rfl, List.getElem?_eq_getElem hl, List.findIdx_getElem, fun j b hj hb => ?_⟩
    obtain ⟨hj2, e⟩ := List.getElem?_eq_some_iff.1 hb
    have := List.not_of_lt_findIdx hj
    rw [e] at this
    simpa using this
  · left
    rw [if_neg h]
    refine ⟨rfl, fun j a ha => ?_⟩
    cases hp : p a with
    | false => rfl
    | true => exact absurd (List.any_eq_true.2 ⟨a, List.mem_of_getElem? ha, hp⟩) h
theorem kp_fin {α : Type} {K l R : List α} {n : Nat} (hK : K.length ≤ l.length) (hn : n = l.length) : List.take (0 + ((K.length : Nat) : Int).toNat) (K ++ l.drop K.length) ++ R ++ List.drop (0 + ((K.length : Nat) : Int).toNat + (n - ((K.length : Nat) : Int).toNat)) (K ++ l.drop K.length) = K ++ R := by
  simp only [Nat.zero_add, Int.toNat_natCast]
  rw [List.take_left, List.drop_eq_nil_of_le (by rw [kp_len hK]; omega), List.append_nil]
end Go.Proofs.YtbmejhabgoimeaaGreat.Eng
set_option linter.unusedVariables false
set_option linter.unusedSimpArgs false
namespace Go.Proofs.YtbmejhabgoimeaaGreat.Eng
open Go Go.RowKit
set_option maxRecDepth 100000
def s_cloneR : Spec := fun args S => match args, S with
  | [.sl 0 s n x], [.arr (.prod (.prod (.int .i64) (.prod (.prod (.int .i64) (.int .i64)) (.prod (.int .i64) (.int .i64)))) (.prod (.prod (.int .i64) (.int .i64)) (.prod (.prod (.int .i64) (.int .i64)) (.prod (.prod (.int .i64) (.int .i64)) (.prod (.prod (.int .i64) (.int .i64)) (.prod (.int .i64) (.int .i64))))))) l 15 wr] => ⟨s + n ≤ l.length ∧ n ≤ 1048576, .sl 1 0 n 0, [.arr (.prod (.prod (.int .i64) (.prod (.prod (.int .i64) (.int .i64)) (.prod (.int .i64) (.int .i64)))) (.prod (.prod (.int .i64) (.int .i64)) (.prod (.prod (.int .i64) (.int .i64)) (.prod (.prod (.int .i64) (.int .i64)) (.prod (.prod (.int .i64) (.int .i64)) (.prod (.int .i64) (.int .i64))))))) l 15 wr, .arr (.prod (.prod (.int .i64) (.prod (.prod (.int .i64) (.int .i64)) (.prod (.int .i64) (.int .i64)))) (.prod (.prod (.int .i64) (.int .i64)) (.prod (.prod (.int .i64) (.int .i64)) (.prod (.prod (.int .i64) (.int .i64)) (.prod (.prod (.int .i64) (.int .i64)) (.prod (.int .i64) (.int .i64))))))) (seg l s n) 15 true]⟩
  | _, _ => noSpec
theorem ok_cloneR : SpecOk Tryz.prog 102 s_cloneR := by
  intro args S h; unfold s_cloneR at h ⊢; (split at h <;> first | exact False.elim h | skip)
  dsimp only at h ⊢
  rename_i s n x l wr
  obtain ⟨h1, h2⟩ := h
  refine funW tabOk (E := []) trivial [] (k := 1) (fn := Tryz.f102) rfl rfl rfl rfl rfl rfl ?_
  (repeat' ((try (conv => whnf)); first | (with_reducible first | refine And.intro ?_ ?_ | refine WX.of ?_) | exact zc | ((with_reducible refine VC.mk ?_); exact zw) | (with_reducible first | refine splitT ?_ | refine splitF ?_) | ((with_reducible refine splitM.mk (fun hsm => ?_) (fun hsm => ?_)) <;> (try exact zx)) | ((with_reducible refine splitB.mk (fun h => ?_) (fun h => ?_)) <;> (try simp only [zs, ne_eq] at h) <;> (try simp (disch := omega) only [w64] at h) <;> (try exact zx)) | (with_reducible intro hz; (try exact absurd hz (Nat.succ_ne_zero _)))))
  subst hz
  exact ⟨by rw [show seg l s 0 = [] from by simp [seg]]; rfl⟩
def s_onc : Spec := fun args S => match args, S with
  | [.agg [.int .i64 i, .int .i64 wp, .int .i64 wq, .int .i64 sp, .int .i64 sq, .int .i64 fp, .int .i64 fq, .int .i64 kp, .int .i64 kq, .int .i64 lp, .int .i64 lq, .int .i64 ap, .int .i64 aq, .int .i64 zp, .int .i64 zq], .ptr 0 0 0], [.arr (.int .i64) [th] 0 true] => ⟨True, .bool (!decide (i = th)), [.arr (.int .i64) [th] 0 true]⟩
  | _, _ => noSpec
theorem ok_onc : SpecOk Tryz.prog 103 s_onc := by
  intro args S h; unfold s_onc at h ⊢; (split at h <;> first | exact False.elim h | skip)
  dsimp only at h ⊢
  refine funW tabOk (E := []) trivial [] (k := 1) (fn := Tryz.f103) rfl rfl rfl rfl rfl rfl ?_
  (repeat' ((try (conv => whnf)); first | (with_reducible first | refine And.intro ?_ ?_ | refine WX.of ?_) | exact zc | ((with_reducible refine VC.mk ?_); exact zw) | (with_reducible first | refine splitT ?_ | refine splitF ?_) | ((with_reducible refine splitM.mk (fun hsm => ?_) (fun hsm => ?_)) <;> (try exact zx)) | ((with_reducible refine splitB.mk (fun h => ?_) (fun h => ?_)) <;> (try simp only [zs, ne_eq] at h) <;> (try simp (disch := omega) only [w64] at h) <;> (try exact zx)) | (with_reducible intro hz; (try exact absurd hz (Nat.succ_ne_zero _)))))
  all_goals exact ⟨by simp⟩
def offB (th : Int) (r : RpT) : Bool := !decide (r.1.1 = th)
def s_idxOn (g : Nat) : Spec := fun args S => match args, S with
  | [.sl 0 q0 n0 x0, .fn g' [.ptr 1 0 0]], [.arr (.prod (.prod (.int .i64) (.prod (.prod (.int .i64) (.int .i64)) (.prod (.int .i64) (.int .i64)))) (.prod (.prod (.int .i64) (.int .i64)) (.prod (.prod (.int .i64) (.int .i64)) (.prod (.prod (.int .i64) (.int .i64)) (.prod (.prod (.int .i64) (.int .i64)) (.prod (.int .i64) (.int .i64))))))) l0 15 wr0, .arr (.int .i64) [th] 0 true] => ⟨g' = g ∧ (q0 + n0 ≤ l0.length ∧ n0 ≤ 4611686018427387904) ∧ True, .int .i64 (findI (offB th) (seg l0 q0 n0)), [.arr (.prod (.prod (.int .i64) (.prod (.prod (.int .i64) (.int .i64)) (.prod (.int .i64) (.int .i64)))) (.prod (.prod (.int .i64) (.int .i64)) (.prod (.prod (.int .i64) (.int .i64)) (.prod (.prod (.int .i64) (.int .i64)) (.prod (.prod (.int .i64) (.int .i64)) (.prod (.int .i64) (.int .i64))))))) l0 15 wr0, .arr (.int .i64) [th] 0 true]⟩
  | _, _ => noSpec
theorem ok_idxOn : SpecOk Tryz.prog 138 (s_idxOn 103) := by
  intro args S h; unfold s_idxOn at h ⊢; (split at h <;> first | exact False.elim h | skip)
  dsimp only at h ⊢
  rename_i q0 n0 x0 g l0 wr0 th
  obtain ⟨rfl, ⟨h1, h2⟩, hcp⟩ := h
  have hL := seg_len h1
  refine funW tabOk (E := [(103, s_onc)]) ⟨ok_onc, trivial⟩ [] (k := 2) (fn := Tryz.f138) rfl rfl rfl rfl rfl rfl ?_
  (repeat' ((try (conv => whnf)); first | (with_reducible first | refine And.intro ?_ ?_ | refine WX.of ?_) | exact zc | ((with_reducible refine VC.mk ?_); exact zw) | (with_reducible first | refine splitT ?_ | refine splitF ?_) | ((with_reducible refine splitM.mk (fun hsm => ?_) (fun hsm => ?_)) <;> (try exact zx)) | ((with_reducible refine splitB.mk (fun h => ?_) (fun h => ?_)) <;> (try simp only [zs, ne_eq] at h) <;> (try simp (disch := omega) only [w64] at h) <;> (try exact zx)) | (with_reducible intro hz; (try exact absurd hz (Nat.succ_ne_zero _)))))
  refine loopW tabOk (E := [(103, s_onc)]) ⟨ok_onc, trivial⟩ [] (σ := Nat) (fun i => [(0, .sl 0 q0 n0 x0), (1, .fn 103 [.ptr 1 0 0]), (7, .int .i64 n0), (8, .int .i64 i)]) (fun i => [.arr (.prod (.prod (.int .i64) (.prod (.prod (.int .i64) (.int .i64)) (.prod (.int .i64) (.int .i64)))) (.prod (.prod (.int .i64) (.int .i64)) (.prod (.prod (.int .i64) (.int .i64)) (.prod (.prod (.int .i64) (.int .i64)) (.prod (.prod (.int .i64) (.int .i64)) (.prod (.int .i64) (.int .i64))))))) l0 15 wr0, .arr (.int .i64) [th] 0 true]) (fun i => n0 - i) (fun i => i ≤ n0 ∧ ∀ (j : Nat) a, j < i → (seg l0 q0 n0)[j]? = some a → (offB th) a = false) 0 ⟨Nat.zero_le _, fun j a hj => by omega⟩ ?_ ?_
  · (repeat' ((try (conv => whnf)); first | (with_reducible first | refine And.intro ?_ ?_ | refine WX.of ?_) | exact zc | ((with_reducible refine VC.mk ?_); exact zw) | (with_reducible first | refine splitT ?_ | refine splitF ?_) | ((with_reducible refine splitM.mk (fun hsm => ?_) (fun hsm => ?_)) <;> (try exact zx)) | ((with_reducible refine splitB.mk (fun h => ?_) (fun h => ?_)) <;> (try simp only [zs, ne_eq] at h) <;> (try simp (disch := omega) only [w64] at h) <;> (try exact zx)) | (with_reducible intro hz; (try exact absurd hz (Nat.succ_ne_zero _)))))
  · intro ii ⟨hi, hp⟩
    by_cases hlt : ii < n0
    · obtain ⟨⟨⟨i, ⟨wp, wq⟩, sp, sq⟩, ⟨fp, fq⟩, ⟨kp, kq⟩, ⟨lp, lq⟩, ⟨ap, aq⟩, zp, zq⟩, ha⟩ := get_some (l := seg l0 q0 n0) (i := ii) (by omega)
      (repeat' ((try (conv => whnf)); first | (with_reducible first | refine And.intro ?_ ?_ | refine WX.of ?_) | exact zc | ((with_reducible refine VC.mk ?_); exact zw) | refine atL_i ha ?_ | ((with_reducible refine VC.mk ?_); exact hcp) | (with_reducible first | refine splitT ?_ | refine splitF ?_) | ((with_reducible refine splitM.mk (fun hsm => ?_) (fun hsm => ?_)) <;> (try exact zx)) | ((with_reducible refine splitB.mk (fun h => ?_) (fun h => ?_)) <;> (try simp only [zs, ne_eq] at h) <;> (try simp (disch := omega) only [w64] at h) <;> (try exact zx)) | (with_reducible intro hz; (try exact absurd hz (Nat.succ_ne_zero _)))))
      · exact ⟨by rw [findI_some ha (by first | (simpa [offB] using h; done) | (simp [offB] at h ⊢; omega)) hp]⟩
      · refine ⟨ii + 1, by omega, ⟨hlt, upto_step ha (by first | (simpa [offB] using h; done) | (simp [offB] at h ⊢; omega)) hp⟩, ?_⟩
        (repeat' ((try (conv => whnf)); first | (with_reducible first | refine And.intro ?_ ?_ | refine WX.of ?_) | exact zc | ((with_reducible refine VC.mk ?_); exact zw) | (with_reducible first | refine splitT ?_ | refine splitF ?_) | ((with_reducible refine splitM.mk (fun hsm => ?_) (fun hsm => ?_)) <;> (try exact zx)) | ((with_reducible refine splitB.mk (fun h => ?_) (fun h => ?_)) <;> (try simp only [zs, ne_eq] at h) <;> (try simp (disch := omega) only [w64] at h) <;> (try exact zx)) | (with_reducible intro hz; (try exact absurd hz (Nat.succ_ne_zero _)))))
    · (repeat' ((try (conv => whnf)); first | (with_reducible first | refine And.intro ?_ ?_ | refine WX.of ?_) | exact zc | ((with_reducible refine VC.mk ?_); exact zw) | (with_reducible first | refine splitT ?_ | refine splitF ?_) | ((with_reducible refine splitM.mk (fun hsm => ?_) (fun hsm => ?_)) <;> (try exact zx)) | ((with_reducible refine splitB.mk (fun h => ?_) (fun h => ?_)) <;> (try simp only [zs, ne_eq] at h) <;> (try simp (disch := omega) only [w64] at h) <;> (try exact zx)) | (with_reducible intro hz; (try exact absurd hz (Nat.succ_ne_zero _)))))
      exact ⟨by rw [findI_none fun j a hj => hp j a (by have := (List.getElem?_eq_some_iff.1 hj).1; omega) hj]⟩
def s_delOn (g : Nat) : Spec := fun args S => match args, S with
  | [.sl 0 0 n0 x0, .fn g' [.ptr 1 0 0]], [.arr (.prod (.prod (.int .i64) (.prod (.prod (.int .i64) (.int .i64)) (.prod (.int .i64) (.int .i64)))) (.prod (.prod (.int .i64) (.int .i64)) (.prod (.prod (.int .i64) (.int .i64)) (.prod (.prod (.int .i64) (.int .i64)) (.prod (.prod (.int .i64) (.int .i64)) (.prod (.int .i64) (.int .i64))))))) l0 15 true, .arr (.int .i64) [th] 0 true] => ⟨g' = g ∧ (n0 = l0.length ∧ n0 ≤ 1048576) ∧ True, .sl 0 0 (l0.filter fun a => !(offB th) a).length (n0 + x0 - (l0.filter fun a => !(offB th) a).length), [.arr (.prod (.prod (.int .i64) (.prod (.prod (.int .i64) (.int .i64)) (.prod (.int .i64) (.int .i64)))) (.prod (.prod (.int .i64) (.int .i64)) (.prod (.prod (.int .i64) (.int .i64)) (.prod (.prod (.int .i64) (.int .i64)) (.prod (.prod (.int .i64) (.int .i64)) (.prod (.int .i64) (.int .i64))))))) ((l0.filter fun a => !(offB th) a) ++ List.replicate (n0 - (l0.filter fun a => !(offB th) a).length) rp0) 15 true, .arr (.int .i64) [th] 0 true]⟩
  | _, _ => noSpec
theorem ok_delOn : SpecOk Tryz.prog 101 (s_delOn 103) := by
  intro args S h; unfold s_delOn at h ⊢; (split at h <;> first | exact False.elim h | skip)
  dsimp only at h ⊢
  rename_i n0 x0 g l0 th
  obtain ⟨rfl, ⟨h1, h2⟩, hcp⟩ := h
  have hs : seg l0 0 n0 = l0 := seg_full h1.symm
  rcases findI_c (p := (offB th)) (l := l0) with ⟨hf, hno⟩ | ⟨i0, a0, hf, ha0, hp0, hno⟩
  · have hall : (l0.filter fun a => !(offB th) a) = l0 := by
      rw [List.filter_eq_self]
      intro a ha
      obtain ⟨j, hj⟩ := List.getElem?_of_mem ha
      rw [hno j a hj]; rfl
    have hcn : decide (findI (offB th) (seg l0 0 n0) = -1) = true := by rw [hs, hf]; rfl
    rw [hall]
    refine funW tabOk (E := [(138, (s_idxOn 103))]) ⟨ok_idxOn, trivial⟩ [] (k := 2) (fn := Tryz.f101) rfl rfl rfl rfl rfl rfl ?_
    (repeat' ((try (conv => whnf)); first | (with_reducible first | refine And.intro ?_ ?_ | refine WX.of ?_) | exact zc | ((with_reducible refine VC.mk ?_); exact zw) | ((with_reducible refine splitT_of ?_ ?_); (focus (simp only [hcn, Bool.not_true, Bool.not_false, decide_true, decide_false]; done))) | ((with_reducible refine splitF_of ?_ ?_); (focus (simp only [hcn, Bool.not_true, Bool.not_false, decide_true, decide_false]; done))) | ((with_reducible refine VC.mk ?_); exact ⟨rfl, ⟨by omega, by omega⟩, hcp⟩) | (with_reducible first | refine splitT ?_ | refine splitF ?_) | ((with_reducible refine splitM.mk (fun hsm => ?_) (fun hsm => ?_)) <;> (try exact zx)) | ((with_reducible refine splitB.mk (fun h => ?_) (fun h => ?_)) <;> (try simp only [zs, ne_eq] at h) <;> (try simp (disch := omega) only [w64] at h) <;> (try exact zx)) | (with_reducible intro hz; (try exact absurd hz (Nat.succ_ne_zero _)))))
    all_goals exact ⟨by rw [← h1]; simp⟩
  · have hi0 : i0 < n0 := by have := (List.getElem?_eq_some_iff.1 ha0).1; omega
    have hcn : decide (findI (offB th) (seg l0 0 n0) = -1) = false := by rw [hs, hf]; exact decide_eq_false (by omega)
    have hfs : findI (offB th) (seg l0 0 n0) = (i0 : Int) := by rw [hs]; exact hf
    have hk0 : (l0.take (i0 + 1)).filter (fun a => !(offB th) a) = l0.take i0 := by
      rw [kp_step ha0, hp0]
      simp only [Bool.not_true, Bool.false_eq_true, if_false, List.append_nil]
      exact kp_all fun j a hj ha => by rw [hno j a hj ha]; rfl
    have hl0 : ((l0.take (i0 + 1)).filter (fun a => !(offB th) a)).length = i0 := by rw [hk0, List.length_take]; omega
    refine funW tabOk (E := [(138, (s_idxOn 103)), (103, s_onc)]) ⟨ok_idxOn, ok_onc, trivial⟩ [] (k := 2) (fn := Tryz.f101) rfl rfl rfl rfl rfl rfl ?_
    (repeat' ((try (conv => whnf)); first | (with_reducible first | refine And.intro ?_ ?_ | refine WX.of ?_) | exact zc | ((with_reducible refine VC.mk ?_); exact zw) | ((with_reducible refine splitT_of ?_ ?_); (focus (simp only [hcn, Bool.not_true, Bool.not_false, decide_true, decide_false]; done))) | ((with_reducible refine splitF_of ?_ ?_); (focus (simp only [hcn, Bool.not_true, Bool.not_false, decide_true, decide_false]; done))) | ((with_reducible refine VC.mk ?_); exact ⟨rfl, ⟨by omega, by omega⟩, hcp⟩) | (with_reducible first | refine splitT ?_ | refine splitF ?_) | ((with_reducible refine splitM.mk (fun hsm => ?_) (fun hsm => ?_)) <;> (try exact zx)) | ((with_reducible refine splitB.mk (fun h => ?_) (fun h => ?_)) <;> (try simp only [zs, ne_eq] at h) <;> (try simp (disch := omega) only [w64] at h) <;> (try exact zx)) | (with_reducible intro hz; (try exact absurd hz (Nat.succ_ne_zero _)))))
    refine loopW tabOk (E := [(138, (s_idxOn 103)), (103, s_onc)]) ⟨ok_idxOn, ok_onc, trivial⟩ [] (σ := Nat) (fun j => [(0, .sl 0 0 n0 x0), (1, .fn 103 [.ptr 1 0 0]), (5, .int .i64 ((l0.take j).filter (fun a => !(offB th) a)).length), (6, .int .i64 j)]) (fun j => [.arr (.prod (.prod (.int .i64) (.prod (.prod (.int .i64) (.int .i64)) (.prod (.int .i64) (.int .i64)))) (.prod (.prod (.int .i64) (.int .i64)) (.prod (.prod (.int .i64) (.int .i64)) (.prod (.prod (.int .i64) (.int .i64)) (.prod (.prod (.int .i64) (.int .i64)) (.prod (.int .i64) (.int .i64))))))) ((l0.take j).filter (fun a => !(offB th) a) ++ l0.drop ((l0.take j).filter (fun a => !(offB th) a)).length) 15 true, .arr (.int .i64) [th] 0 true]) (fun j => n0 - j) (fun j => i0 + 1 ≤ j ∧ j ≤ n0 ∧ ((l0.take j).filter (fun a => !(offB th) a)).length < j) (i0 + 1) ⟨Nat.le_refl _, by omega, by omega⟩ ?_ ?_
    · (repeat' ((try (conv => whnf)); first | (with_reducible first | refine And.intro ?_ ?_ | refine WX.of ?_) | exact zc | ((with_reducible refine VC.mk ?_); exact zw) | (with_reducible first | refine splitT ?_ | refine splitF ?_) | ((with_reducible refine splitM.mk (fun hsm => ?_) (fun hsm => ?_)) <;> (try exact zx)) | ((with_reducible refine splitB.mk (fun h => ?_) (fun h => ?_)) <;> (try simp only [zs, ne_eq] at h) <;> (try simp (disch := omega) only [w64] at h) <;> (try exact zx)) | (with_reducible intro hz; (try exact absurd hz (Nat.succ_ne_zero _)))))
      all_goals (first | (refine ⟨?_⟩; rw [hl0, hfs]) | (refine ⟨?_⟩; rw [hfs]; (try simp (disch := omega) only [w64]); push_cast; rfl) | (refine ⟨?_⟩; rw [hk0, List.length_take, Nat.min_eq_left (by omega), List.take_append_drop]))
    · intro j ⟨hj0, hj, hkj⟩
      by_cases hlt : j < n0
      · obtain ⟨⟨⟨i, ⟨wp, wq⟩, sp, sq⟩, ⟨fp, fq⟩, ⟨kp, kq⟩, ⟨lp, lq⟩, ⟨ap, aq⟩, zp, zq⟩, ha⟩ := get_some (l := l0) (i := j) (by omega)
        have hst := kp_step (p := fun a => !(offB th) a) ha
        have hget := kp_get (K := (l0.take j).filter (fun a => !(offB th) a)) (l := l0) (j := j) (by omega)
        rw [ha] at hget
        obtain ⟨b, hb⟩ := get_some (l := (l0.take j).filter (fun a => !(offB th) a) ++ l0.drop ((l0.take j).filter (fun a => !(offB th) a)).length) (i := ((l0.take j).filter (fun a => !(offB th) a)).length) (by rw [kp_len (by omega)]; omega)
        (repeat' ((try (conv => whnf)); first | (with_reducible first | refine And.intro ?_ ?_ | refine WX.of ?_) | exact zc | ((with_reducible refine VC.mk ?_); exact zw) | with_reducible refine atL_0 hget ?_ | with_reducible refine atL_0 hb ?_ | ((with_reducible refine VC.mk ?_); exact hcp) | (with_reducible first | refine splitT ?_ | refine splitF ?_) | ((with_reducible refine splitM.mk (fun hsm => ?_) (fun hsm => ?_)) <;> (try exact zx)) | ((with_reducible refine splitB.mk (fun h => ?_) (fun h => ?_)) <;> (try simp only [zs, ne_eq] at h) <;> (try simp (disch := omega) only [w64] at h) <;> (try exact zx)) | (with_reducible intro hz; (try exact absurd hz (Nat.succ_ne_zero _)))))
        · have hpa : (!(offB th) ((i, (wp, wq), sp, sq), (fp, fq), (kp, kq), (lp, lq), (ap, aq), zp, zq)) = true := by first | (simpa [offB] using h; done) | (simp [offB] at h ⊢; omega)
          rw [if_pos hpa] at hst
          refine ⟨j + 1, by omega, ⟨by omega, by omega, by rw [hst, List.length_append, List.length_singleton]; omega⟩, ?_⟩
          rw [hst]
          (repeat' ((try (conv => whnf)); first | (with_reducible first | refine And.intro ?_ ?_ | refine WX.of ?_) | exact zc | ((with_reducible refine VC.mk ?_); exact zw) | (with_reducible first | refine splitT ?_ | refine splitF ?_) | ((with_reducible refine splitM.mk (fun hsm => ?_) (fun hsm => ?_)) <;> (try exact zx)) | ((with_reducible refine splitB.mk (fun h => ?_) (fun h => ?_)) <;> (try simp only [zs, ne_eq] at h) <;> (try simp (disch := omega) only [w64] at h) <;> (try exact zx)) | (with_reducible intro hz; (try exact absurd hz (Nat.succ_ne_zero _)))))
          · exact ⟨by rw [w64 (by omega)]; simp⟩
          · refine ⟨?_⟩
            simp only [Nat.zero_add, Int.toNat_natCast]
            exact kp_set (by omega)
        · have hpa : ¬ (!(offB th) ((i, (wp, wq), sp, sq), (fp, fq), (kp, kq), (lp, lq), (ap, aq), zp, zq)) = true := by first | (simpa [offB] using h; done) | (simp [offB] at h ⊢; omega)
          rw [if_neg hpa, List.append_nil] at hst
          refine ⟨j + 1, by omega, ⟨by omega, by omega, by rw [hst]; omega⟩, ?_⟩
          rw [hst]
          (repeat' ((try (conv => whnf)); first | (with_reducible first | refine And.intro ?_ ?_ | refine WX.of ?_) | exact zc | ((with_reducible refine VC.mk ?_); exact zw) | (with_reducible first | refine splitT ?_ | refine splitF ?_) | ((with_reducible refine splitM.mk (fun hsm => ?_) (fun hsm => ?_)) <;> (try exact zx)) | ((with_reducible refine splitB.mk (fun h => ?_) (fun h => ?_)) <;> (try simp only [zs, ne_eq] at h) <;> (try simp (disch := omega) only [w64] at h) <;> (try exact zx)) | (with_reducible intro hz; (try exact absurd hz (Nat.succ_ne_zero _)))))
      · obtain rfl : j = n0 := by omega
        have htk : l0.take j = l0 := List.take_of_length_le (by omega)
        rw [htk] at hkj ⊢
        (repeat' ((try (conv => whnf)); first | (with_reducible first | refine And.intro ?_ ?_ | refine WX.of ?_) | exact zc | ((with_reducible refine VC.mk ?_); exact zw) | (with_reducible first | refine splitT ?_ | refine splitF ?_) | ((with_reducible refine splitM.mk (fun hsm => ?_) (fun hsm => ?_)) <;> (try exact zx)) | ((with_reducible refine splitB.mk (fun h => ?_) (fun h => ?_)) <;> (try simp only [zs, ne_eq] at h) <;> (try simp (disch := omega) only [w64] at h) <;> (try exact zx)) | (with_reducible intro hz; (try exact absurd hz (Nat.succ_ne_zero _)))))
        · exact ⟨by rw [kp_len (by omega)]; simp only [Int.toNat_natCast]; omega⟩
        · exact ⟨congrArg (fun z => [SB.arr (.prod (.prod (.int .i64) (.prod (.prod (.int .i64) (.int .i64)) (.prod (.int .i64) (.int .i64)))) (.prod (.prod (.int .i64) (.int .i64)) (.prod (.prod (.int .i64) (.int .i64)) (.prod (.prod (.int .i64) (.int .i64)) (.prod (.prod (.int .i64) (.int .i64)) (.prod (.int .i64) (.int .i64))))))) z 15 true, .arr (.int .i64) [th] 0 true]) (kp_fin (by omega) (by omega))⟩
/-- The reports on a thing. -/
def onT (L : List RpT) (th : Int) : List RpT := L.filter fun r => decide (r.1.1 = th)
theorem on_eq (L : List RpT) (th : Int) : (L.filter fun a => !offB th a) = onT L th := by
  unfold onT offB
  congr 1
  funext r
  simp
def s_on : Spec := fun args S => match args, S with
  | [.sl 0 q k z, .int .i64 th], [.arr (.prod (.prod (.int .i64) (.prod (.prod (.int .i64) (.int .i64)) (.prod (.int .i64) (.int .i64)))) (.prod (.prod (.int .i64) (.int .i64)) (.prod (.prod (.int .i64) (.int .i64)) (.prod (.prod (.int .i64) (.int .i64)) (.prod (.prod (.int .i64) (.int .i64)) (.prod (.int .i64) (.int .i64))))))) L 15 wL] => ⟨q + k ≤ L.length ∧ k ≤ 1048576, .sl 1 0 (onT (seg L q k) th).length (k - (onT (seg L q k) th).length), [.arr (.prod (.prod (.int .i64) (.prod (.prod (.int .i64) (.int .i64)) (.prod (.int .i64) (.int .i64)))) (.prod (.prod (.int .i64) (.int .i64)) (.prod (.prod (.int .i64) (.int .i64)) (.prod (.prod (.int .i64) (.int .i64)) (.prod (.prod (.int .i64) (.int .i64)) (.prod (.int .i64) (.int .i64))))))) L 15 wL, .arr (.prod (.prod (.int .i64) (.prod (.prod (.int .i64) (.int .i64)) (.prod (.int .i64) (.int .i64)))) (.prod (.prod (.int .i64) (.int .i64)) (.prod (.prod (.int .i64) (.int .i64)) (.prod (.prod (.int .i64) (.int .i64)) (.prod (.prod (.int .i64) (.int .i64)) (.prod (.int .i64) (.int .i64))))))) (onT (seg L q k) th ++ List.replicate (k - (onT (seg L q k) th).length) rp0) 15 true]⟩
  | _, _ => noSpec
theorem ok_reportsOn : SpecOk Tryz.prog 54 s_on := by
  intro args S h; unfold s_on at h ⊢; (split at h <;> first | exact False.elim h | skip)
  dsimp only at h ⊢
  rename_i q k z th L wL
  have hLk := seg_len h.1
  refine funW tabOk (E := [(102, s_cloneR), (101, (s_delOn 103))]) ⟨ok_cloneR, ok_delOn, trivial⟩ [] (k := 1) (fn := Tryz.f54) rfl rfl rfl rfl rfl rfl ?_
  (repeat' ((try (conv => whnf)); first | (with_reducible first | refine And.intro ?_ ?_ | refine WX.of ?_) | exact zc | ((with_reducible refine VC.mk ?_); exact zw) | ((with_reducible refine VC.mk ?_); exact h) | ((with_reducible refine VC.mk ?_); exact ⟨rfl, ⟨hLk.symm, h.2⟩, trivial⟩) | (with_reducible first | refine splitT ?_ | refine splitF ?_) | ((with_reducible refine splitM.mk (fun hsm => ?_) (fun hsm => ?_)) <;> (try exact zx)) | ((with_reducible refine splitB.mk (fun h => ?_) (fun h => ?_)) <;> (try simp only [zs, ne_eq] at h) <;> (try simp (disch := omega) only [w64] at h) <;> (try exact zx)) | (with_reducible intro hz; (try exact absurd hz (Nat.succ_ne_zero _)))))
  · exact ⟨by rw [on_eq]; rfl⟩
  · exact ⟨by rw [on_eq]⟩
end Go.Proofs.YtbmejhabgoimeaaGreat.Eng
set_option linter.unusedVariables false
set_option linter.unusedSimpArgs false
namespace Go.Proofs.YtbmejhabgoimeaaGreat.Eng
open Go Go.RowKit
set_option maxRecDepth 100000
/-- The value of a fraction. -/
def rv (a : FrT) : Rat := (a.1 : Rat) / (a.2 : Rat)
theorem pos_q {q : Int} (h : 0 < q) : (0 : Rat) < (q : Rat) := by exact_mod_cast h
theorem rv_lei {p q r s : Int} (h1 : 0 < q) (h2 : 0 < s) : (p : Rat) / q ≤ r / s ↔ p * s ≤ r * q := by
  have hq := pos_q h1
  have hs := pos_q h2
  have h3 : (r : Rat) / s < p / q ↔ r * q < p * s := by
    rw [Rat.div_lt_iff hs]
    rw [show (p : Rat) / q * s = (p * s) / q by grind]
    rw [Rat.lt_div_iff hq]
    norm_cast
  rw [← Rat.not_lt, h3]
  omega
theorem rv_le {a b : FrT} (h1 : 0 < a.2) (h2 : 0 < b.2) : rv a ≤ rv b ↔ a.1 * b.2 ≤ b.1 * a.2 := rv_lei h1 h2
theorem rv_lt {a b : FrT} (h1 : 0 < a.2) (h2 : 0 < b.2) : rv a < rv b ↔ a.1 * b.2 < b.1 * a.2 := by
  rw [← Rat.not_le, rv_le h2 h1]; omega
theorem rv_num (n : Int) : rv (n, 1) = n := by unfold rv; dsimp only; grind
theorem rv_rO {p q : Int} {v : FrT} (hq : 0 < q) (h : rO p q = some v) : rv v = (p : Rat) / q ∧ 0 < v.2 := by
  unfold rO at h
  split at h
  · obtain rfl := Option.some.inj h
    have hb := red_back (p := p) hq
    have hg := redG_pos (p := p) (q := q) (by omega)
    have hQ := redQ_pos (p := p) hq
    refine ⟨?_, hQ⟩
    have hg' := pos_q hg
    have hQ' := pos_q hQ
    have e1 : (p : Rat) = redG p q * redP p q := by exact_mod_cast hb.1
    have e2 : (q : Rat) = redG p q * redQ p q := by exact_mod_cast hb.2
    unfold rv
    rw [e1, e2]
    dsimp only
    grind
  · simp at h
theorem rv_ad {a b v : FrT} (ha : 0 < a.2) (hb : 0 < b.2) (h : adO a b = some v) : rv v = rv a + rv b ∧ 0 < v.2 := by
  have h1 := rv_rO (Int.mul_pos ha hb) h
  refine ⟨?_, h1.2⟩
  rw [h1.1]
  unfold rv
  have := pos_q ha
  have := pos_q hb
  push_cast
  grind
theorem rv_sb {a b v : FrT} (ha : 0 < a.2) (hb : 0 < b.2) (h : sbO a b = some v) : rv v = rv a - rv b ∧ 0 < v.2 := by
  have h1 := rv_rO (Int.mul_pos ha hb) h
  refine ⟨?_, h1.2⟩
  rw [h1.1]
  unfold rv
  have := pos_q ha
  have := pos_q hb
  push_cast
  grind
theorem rv_mu {a b v : FrT} (ha : 0 < a.2) (hb : 0 < b.2) (h : muO a b = some v) : rv v = rv a * rv b ∧ 0 < v.2 := by
  have h1 := rv_rO (Int.mul_pos ha hb) h
  refine ⟨?_, h1.2⟩
  rw [h1.1]
  unfold rv
  have := pos_q ha
  have := pos_q hb
  push_cast
  grind
theorem rv_dv {a b v : FrT} (ha : 0 < a.2) (hb : 0 < b.2) (hp : 0 < b.1) (h : dvO a b = some v) : rv v = rv a / rv b ∧ 0 < v.2 := by
  unfold dvO at h
  rw [if_neg (by omega)] at h
  have h1 := rv_rO (Int.mul_pos ha hp) h
  refine ⟨?_, h1.2⟩
  rw [h1.1]
  unfold rv
  have := pos_q ha
  have := pos_q hb
  have := pos_q hp
  push_cast
  grind
theorem fOk_q {p q : Int} (h : fOk p q = true) : 0 < q := by have := smF_ok h; unfold smF at this; omega
theorem rv_pos {a : FrT} (h : 0 < a.2) : 0 < rv a ↔ 0 < a.1 := by
  have h2 := rv_lt (a := (0, 1)) (b := a) (by decide) h
  rw [show rv (0, 1) = 0 from rv_num 0] at h2
  rw [h2]; dsimp only; omega
theorem rv_nn {a : FrT} (h : 0 < a.2) : 0 ≤ rv a ↔ 0 ≤ a.1 := by
  have h2 := rv_le (a := (0, 1)) (b := a) (by decide) h
  rw [show rv (0, 1) = 0 from rv_num 0] at h2
  rw [h2]; dsimp only; omega
end Go.Proofs.YtbmejhabgoimeaaGreat.Eng
set_option linter.unusedVariables false
set_option linter.unusedSimpArgs false
namespace Go.Proofs.YtbmejhabgoimeaaGreat.Eng
open Go Go.RowKit
set_option maxRecDepth 100000
theorem st_v {g w s : FrT} (hg : 0 < g.2) (hw : 0 < w.2) (h : stO g w = some s) : rv s = 1 + rv g * rv w ∧ 0 < s.2 := by
  unfold stO at h
  cases h1 : muO g w with
  | none => rw [h1] at h; simp at h
  | some a =>
    rw [h1] at h
    simp only [Option.bind_some] at h
    have e1 := rv_mu hg hw h1
    have e2 := rv_ad (a := (1, 1)) (by decide) e1.2 h
    refine ⟨?_, e2.2⟩
    rw [e2.1, e1.1, rv_num]; rfl
theorem bk_v {g1 g2 w a v : FrT} (hg1 : 0 < g1.2) (hg2 : 0 < g2.2) (hw : 0 < w.2) (ha : 0 < a.2) (hp : 0 < 1 + rv g2 * rv w) (h : bkO g1 g2 w a = some v) : rv v = rv a * (1 + rv g1 * rv w) / (1 + rv g2 * rv w) ∧ 0 < v.2 := by
  unfold bkO at h
  cases h1 : stO g1 w with
  | none => rw [h1] at h; simp at h
  | some c =>
    rw [h1] at h
    simp only [Option.bind_some] at h
    cases h2 : stO g2 w with
    | none => rw [h2] at h; simp at h
    | some t =>
      rw [h2] at h
      simp only [Option.bind_some] at h
      cases h3 : muO a c with
      | none => rw [h3] at h; simp at h
      | some d =>
        rw [h3] at h
        simp only [Option.bind_some] at h
        have e1 := st_v hg1 hw h1
        have e2 := st_v hg2 hw h2
        have e3 := rv_mu ha e1.2 h3
        have hp2 : 0 < t.1 := (rv_pos e2.2).1 (by rw [e2.1]; exact hp)
        have e4 := rv_dv e3.2 e2.2 hp2 h
        refine ⟨?_, e4.2⟩
        rw [e4.1, e3.1, e1.1, e2.1]
theorem db_v {u w e : FrT} {vp : Int} (hu : 0 < u.2) (hw : 0 < w.2) (hv : 0 < vp) (h : dbO u vp w = some e) : rv e = rv u / (2 * vp) + 2 * rv w ∧ 0 < e.2 := by
  unfold dbO at h
  cases h1 : dvO u (2 * vp, 1) with
  | none => rw [h1] at h; simp at h
  | some a =>
    rw [h1] at h
    simp only [Option.bind_some] at h
    cases h2 : muO (2, 1) w with
    | none => rw [h2] at h; simp at h
    | some b =>
      rw [h2] at h
      simp only [Option.bind_some] at h
      have e1 := rv_dv (b := (2 * vp, 1)) hu Int.one_pos (by dsimp only; omega) h1
      have e2 := rv_mu (a := (2, 1)) (by decide) hw h2
      have e3 := rv_ad e1.2 e2.2 h
      refine ⟨?_, e3.2⟩
      rw [e3.1, e1.1, e2.1, rv_num, rv_num]
      push_cast; rfl
theorem wrN_nn {E : List FrT} : ∀ (i : Nat), 0 ≤ (wrN E i).1
  | 0 => Int.le_refl 0
  | i + 1 => by
    rw [wrN]
    unfold moF
    have := wrN_nn (E := E) i
    split
    · exact this
    · dsimp only; omega
theorem gw_v {g : FrT} (h : gwB g.1 g.2 = true) : 0 < g.2 ∧ 0 ≤ rv g ∧ 1000 * rv g ≤ 1 := by
  unfold gwB at h
  simp only [Bool.and_eq_true, decide_eq_true_eq] at h
  have hq := fOk_q h.1.1
  refine ⟨hq, (rv_nn hq).2 h.1.2, ?_⟩
  have h2 := (rv_le (a := (1000 * g.1, g.2)) (b := (1, 1)) hq (by decide)).2 (by dsimp only; omega)
  rw [show rv (1, 1) = 1 from rv_num 1] at h2
  have : rv (1000 * g.1, g.2) = 1000 * rv g := by unfold rv; dsimp only; push_cast; grind
  rw [this] at h2; exact h2
theorem wm_v {w : FrT} (hf : fOk w.1 w.2 = true) (h : (w.1.natAbs : Int) ≤ 100 * w.2) : 0 < w.2 ∧ -100 ≤ rv w ∧ rv w ≤ 100 := by
  have hq := fOk_q hf
  have h1 := (rv_le (a := w) (b := (100, 1)) hq (by decide)).2 (by dsimp only; omega)
  have h2 := (rv_le (a := (-100, 1)) (b := w) (by decide) hq).2 (by dsimp only; omega)
  rw [rv_num] at h1 h2
  exact ⟨hq, h2, h1⟩
/-- A stretch is more than 0. -/
theorem st_gt {g w : FrT} (hg : gwB g.1 g.2 = true) (hf : fOk w.1 w.2 = true) (h : (w.1.natAbs : Int) ≤ 100 * w.2) : 0 < 1 + rv g * rv w := by
  have h1 := gw_v hg
  have h2 := wm_v hf h
  have h3 := Rat.mul_le_mul_of_nonneg_left h2.2.1 h1.2.1
  grind
/-- What an open span tells. -/
theorem op_v {up uq vp gp gq : Int} {E : List FrT} {T : List ThT} {c : ShT} {f k a b : FrT} (hb : bnB up uq vp gp gq E T = true) (hs : shB T.length c = true) (hf : fOk f.1 f.2 = true) (hk : fOk k.1 k.2 = true) (h : opT (up, uq) E vp (gp, gq) T c f k = some (a, b)) :
    (rv a = (rv k - rv f - 2 * (rv (up, uq) / (2 * vp) + 2 * rv (wrN E E.length))) * (1 + rv (gp, gq) * rv c.2.1) / (1 + rv (thAt T c).2.2 * rv c.2.1) ∧ 0 < a.2) ∧
    (rv b = (rv k - rv f + 2 * (rv (up, uq) / (2 * vp) + 2 * rv (wrN E E.length))) * (1 + rv (gp, gq) * rv c.2.1) / (1 + rv (thAt T c).2.2 * rv c.2.1) ∧ 0 < b.2) := by
  have hgg := bn_g hb
  have hsh := sh_e hs
  obtain ⟨x, ha⟩ := get_some (l := T) (i := c.1.toNat) (by omega)
  have hat := bn_at hb ha
  have e : thAt T c = x := by unfold thAt; rw [ha]; rfl
  have hel := sc_el hgg.2.2.2.2
  have hwr := wrN_sm hel (i := E.length) (Nat.le_refl _)
  have hwq : 0 < (wrN E E.length).2 := by unfold smF at hwr; omega
  rw [e]
  unfold opT opO at h
  rw [e] at h
  have hp := st_gt hat.2.2 hsh.2.1 hsh.2.2.1
  cases h1 : sbO k f with
  | none => rw [h1] at h; simp at h
  | some d =>
    rw [h1] at h
    simp only [Option.bind_some] at h
    cases h2 : dbO (up, uq) vp (wrN E E.length) with
    | none => rw [h2] at h; simp at h
    | some dd =>
      rw [h2] at h
      simp only [Option.bind_some] at h
      cases h3 : muO (2, 1) dd with
      | none => rw [h3] at h; simp at h
      | some by' =>
        rw [h3] at h
        simp only [Option.bind_some] at h
        cases h4 : arO d by' with
        | none => rw [h4] at h; simp at h
        | some lh =>
          rw [h4] at h
          simp only [Option.bind_some] at h
          unfold arO at h4
          cases h5 : sbO d by' with
          | none => rw [h5] at h4; simp at h4
          | some lo =>
            rw [h5] at h4
            simp only [Option.bind_some] at h4
            cases h6 : adO d by' with
            | none => rw [h6] at h4; simp at h4
            | some hi =>
              rw [h6] at h4
              simp only [Option.bind_some] at h4
              obtain rfl := Option.some.inj h4
              cases h7 : bkO (gp, gq) x.2.2 c.2.1 lo with
              | none => rw [h7] at h; simp at h
              | some a' =>
                rw [h7] at h
                simp only [Option.bind_some] at h
                cases h8 : bkO (gp, gq) x.2.2 c.2.1 hi with
                | none => rw [h8] at h; simp at h
                | some b' =>
                  rw [h8] at h
                  simp only [Option.bind_some] at h
                  obtain ⟨rfl, rfl⟩ := Prod.mk.inj (Option.some.inj h)
                  have e1 := rv_sb (fOk_q hk) (fOk_q hf) h1
                  have e2 := db_v (u := (up, uq)) (fOk_q hgg.2.2.1) hwq (by omega) h2
                  have e3 := rv_mu (a := (2, 1)) (by decide) e2.2 h3
                  have e5 := rv_sb e1.2 e3.2 h5
                  have e6 := rv_ad e1.2 e3.2 h6
                  have e7 := bk_v (g1 := (gp, gq)) (fOk_q hgg.1) (fOk_q hat.2.1) (fOk_q hsh.2.1) e5.2 hp h7
                  have e8 := bk_v (g1 := (gp, gq)) (fOk_q hgg.1) (fOk_q hat.2.1) (fOk_q hsh.2.1) e6.2 hp h8
                  rw [rv_num] at e3
                  refine ⟨⟨?_, e7.2⟩, ?_, e8.2⟩
                  · rw [e7.1, e5.1, e1.1, e3.1, e2.1]; rfl
                  · rw [e8.1, e6.1, e1.1, e3.1, e2.1]; rfl
theorem rat_div_le {a b c : Rat} (h : a ≤ b) (hc : 0 < c) : a / c ≤ b / c := by
  have h1 : 0 < c⁻¹ := Rat.inv_pos.2 hc
  have := Rat.mul_le_mul_of_nonneg_right h (Rat.le_of_lt h1)
  rwa [← Rat.div_def, ← Rat.div_def] at this
theorem bk_f {g1 g2 w a v : FrT} (h : bkO g1 g2 w a = some v) : fOk v.1 v.2 = true := okO_bk _ _ _ _ v h
theorem op_f {u : FrT} {E : List FrT} {vp : Int} {g : FrT} {T : List ThT} {c : ShT} {f k a b : FrT} (h : opT u E vp g T c f k = some (a, b)) : fOk a.1 a.2 = true ∧ fOk b.1 b.2 = true := by
  unfold opT opO at h
  cases h1 : sbO k f with
  | none => rw [h1] at h; simp at h
  | some d =>
    rw [h1] at h
    simp only [Option.bind_some] at h
    cases h2 : dbO u vp (wrN E E.length) with
    | none => rw [h2] at h; simp at h
    | some dd =>
      rw [h2] at h
      simp only [Option.bind_some] at h
      cases h3 : muO (2, 1) dd with
      | none => rw [h3] at h; simp at h
      | some by' =>
        rw [h3] at h
        simp only [Option.bind_some] at h
        cases h4 : arO d by' with
        | none => rw [h4] at h; simp at h
        | some lh =>
          rw [h4] at h
          simp only [Option.bind_some] at h
          cases h7 : bkO g (thAt T c).2.2 c.2.1 lh.1 with
          | none => rw [h7] at h; simp at h
          | some a' =>
            rw [h7] at h
            simp only [Option.bind_some] at h
            cases h8 : bkO g (thAt T c).2.2 c.2.1 lh.2 with
            | none => rw [h8] at h; simp at h
            | some b' =>
              rw [h8] at h
              simp only [Option.bind_some] at h
              obtain ⟨rfl, rfl⟩ := Prod.mk.inj (Option.some.inj h)
              exact ⟨bk_f h7, bk_f h8⟩
theorem op_sp {up uq vp gp gq : Int} {E : List FrT} {T : List ThT} {c : ShT} {f k a b : FrT} (hb : bnB up uq vp gp gq E T = true) (hs : shB T.length c = true) (hf : fOk f.1 f.2 = true) (hk : fOk k.1 k.2 = true) (h : opT (up, uq) E vp (gp, gq) T c f k = some (a, b)) : spB (a, b) = true := by
  have hv := op_v hb hs hf hk h
  have hfa := op_f h
  have hgg := bn_g hb
  have hsh := sh_e hs
  obtain ⟨x, ha⟩ := get_some (l := T) (i := c.1.toNat) (by omega)
  have hat := bn_at hb ha
  have e : thAt T c = x := by unfold thAt; rw [ha]; rfl
  have hC := st_gt (g := (gp, gq)) hgg.2.1 hsh.2.1 hsh.2.2.1
  have hD := st_gt hat.2.2 hsh.2.1 hsh.2.2.1
  rw [← e] at hD
  have hel := sc_el hgg.2.2.2.2
  have hwr := wrN_sm hel (i := E.length) (Nat.le_refl _)
  have hw0 : 0 ≤ rv (wrN E E.length) := (rv_nn (by unfold smF at hwr; omega)).2 (wrN_nn _)
  have hsz := sc_sz hgg.2.2.2.2
  have hu0 : 0 < rv (up, uq) := (rv_pos (fOk_q hgg.2.2.1)).2 hsz.2.1.1
  have hvp : (0 : Rat) < 2 * vp := by have : (0 : Rat) < vp := pos_q (by omega); grind
  have hud : 0 ≤ rv (up, uq) / (2 * vp) := by
    have := rat_div_le (Rat.le_of_lt hu0) hvp
    rwa [show (0 : Rat) / (2 * vp) = 0 by grind] at this
  have hle : rv a ≤ rv b := by
    rw [hv.1.1, hv.2.1]
    refine rat_div_le (Rat.mul_le_mul_of_nonneg_right ?_ (Rat.le_of_lt hC)) hD
    grind
  unfold spB
  rw [spOk_iff]
  exact ⟨hfa.1, hfa.2, (rv_le hv.1.2 hv.2.2).1 hle⟩
/-- What an accepted report is. -/
theorem acc_sp {up uq vp gp gq : Int} {vb : Bool} {E : List FrT} {T : List ThT} {r : RpT} (hb : bnB up uq vp gp gq E T = true) (h : accB (up, uq) E vp vb (gp, gq) T r = true) : spB r.2.2.2.2 = true ∧ fOk r.2.2.2.1.1 r.2.2.2.1.2 = true ∧ shB T.length r.1 = true ∧ taE (up, uq) E vp vb (gp, gq) T r.1 = .ok r := by
  unfold accB at h
  cases hs : shB T.length r.1 with
  | false => rw [hs] at h; simp [tkE] at h
  | true =>
    rw [hs] at h
    unfold tkE at h
    rw [if_pos rfl] at h
    cases ht : taE (up, uq) E vp vb (gp, gq) T r.1 with
    | error k => rw [ht] at h; simp at h
    | ok own =>
      rw [ht] at h
      simp only [decide_eq_true_eq] at h
      subst h
      rcases ta_c (up, uq) E vp vb (gp, gq) T own.1 with ⟨k, _, _, hE⟩ | ⟨d1, d2, hr, hcc⟩
      · rw [hE] at ht; cases ht
      · have hf := ends_f hr
        rcases hcc with ⟨_, hE⟩ | ⟨len, hl, hcc⟩
        · rw [hE] at ht; cases ht
        · rcases hcc with ⟨_, hE⟩ | ⟨a, b, ho, hE⟩
          · rw [hE] at ht; cases ht
          · rw [hE] at ht
            have e := Except.ok.inj ht
            rw [← e]
            rw [← e] at hs
            exact ⟨op_sp hb hs hf.1 hf.2 ho, okO_ln2 _ _ _ _ _ _ hl, rfl, rfl⟩
end Go.Proofs.YtbmejhabgoimeaaGreat.Eng
set_option linter.unusedVariables false
set_option linter.unusedSimpArgs false
namespace Go.Proofs.YtbmejhabgoimeaaGreat.Eng
open Go Go.RowKit
set_option maxRecDepth 100000
def spR (r : RpT) : SpT := r.2.2.2.2
def mrW (L : List RpT) (th : Int) : List SpT := (onT L th).map spR
def mrC (W : List SpT) : Int := if W = [] then 6 else if (mtN W W.length).isSome = true then 0 else 4
def mrV (W : List SpT) : SpT := if mrC W = 0 then (mtN W W.length).getD ((0, 0), 0, 0) else ((0, 0), 0, 0)
def mrN (W : List SpT) : Int := if mrC W = 0 then (W.length : Int) else 0
theorem ck_all {u : FrT} {E : List FrT} {vp : Int} {vb : Bool} {g : FrT} {T : List ThT} {L : List RpT} (h : ckI u E vp vb g T L < 0) : ∀ r ∈ L, accB u E vp vb g T r = true := by
  intro r hr
  unfold ckI at h
  rcases findI_c (p := fun r => !accB u E vp vb g T r) (l := L) with ⟨_, hno⟩ | ⟨i, a, hf, _⟩
  · obtain ⟨j, hj⟩ := List.getElem?_of_mem hr
    have := hno j r hj
    simpa using this
  · rw [hf] at h; omega
theorem rq_0 {bn bad : Bool} {k : Nat} {f : Int} (h : rqC bn k bad f = 0) : bn = true ∧ k ≤ 40 ∧ bad = false ∧ f < 0 := by
  unfold rqC at h
  split at h
  · split at h
    · omega
    · split at h
      · rename_i h1 h2 h3
        refine ⟨h1, by omega, ?_, h3⟩
        cases bad with
        | false => rfl
        | true => exact absurd (.inr rfl) h2
      · omega
  · omega
theorem on_mem {L : List RpT} {th : Int} {r : RpT} (h : r ∈ onT L th) : r ∈ L := (List.mem_filter.1 h).1
theorem on_le {L : List RpT} {th : Int} : (onT L th).length ≤ L.length := List.length_filter_le _ _
theorem on_get {F R : List RpT} {i : Nat} (hi : i < F.length) : (F ++ R)[i]? = F[i]? := List.getElem?_append_left hi
theorem mr_0 {W : List SpT} (h : W = []) : mrC W = 6 ∧ mrV W = ((0, 0), 0, 0) ∧ mrN W = 0 := by subst h; exact ⟨rfl, rfl, rfl⟩
theorem mr_4 {W : List SpT} (h : W ≠ []) (h2 : mtN W W.length = none) : mrC W = 4 ∧ mrV W = ((0, 0), 0, 0) ∧ mrN W = 0 := by
  have hc : mrC W = 4 := by unfold mrC; rw [if_neg h, h2]; rfl
  exact ⟨hc, by unfold mrV; rw [hc]; rfl, by unfold mrN; rw [hc]; rfl⟩
theorem mr_1 {W : List SpT} {v : SpT} (h : W ≠ []) (h2 : mtN W W.length = some v) : mrC W = 0 ∧ mrV W = v ∧ mrN W = W.length := by
  have hc : mrC W = 0 := by unfold mrC; rw [if_neg h, h2]; rfl
  exact ⟨hc, by unfold mrV; rw [if_pos hc, h2]; rfl, by unfold mrN; rw [if_pos hc]⟩
theorem mr_ne {L : List RpT} {th : Int} (h : ¬ ((onT L th).length : Int) = 0) : mrW L th ≠ [] := fun e => h (by
  have : (mrW L th).length = (onT L th).length := by unfold mrW; simp
  rw [e] at this
  rw [← this]; rfl)
def s_meetI : Spec := fun args S => match args, S with
  | [.agg [.int .i64 up, .int .i64 uq, .sl 0 s n x, .int .i64 vp, .bool vb, .int .i64 gp, .int .i64 gq, .sl 1 t m y], .sl 2 q k z, .int .i64 th], [.arr (.prod (.int .i64) (.int .i64)) l 2 wr, .arr (.prod .str (.prod (.prod (.int .i64) (.int .i64)) (.prod (.int .i64) (.int .i64)))) T 5 wT, .arr (.prod (.prod (.int .i64) (.prod (.prod (.int .i64) (.int .i64)) (.prod (.int .i64) (.int .i64)))) (.prod (.prod (.int .i64) (.int .i64)) (.prod (.prod (.int .i64) (.int .i64)) (.prod (.prod (.int .i64) (.int .i64)) (.prod (.prod (.int .i64) (.int .i64)) (.prod (.int .i64) (.int .i64))))))) L 15 wL] => ⟨((s + n ≤ l.length ∧ n ≤ 1048576) ∧ (t + m ≤ T.length ∧ m ≤ 1048576) ∧ ∀ (j : Nat) (a : ThT), T[j]? = some a → a.1.length < 4611686018427387904) ∧ q + k ≤ L.length ∧ k ≤ 1048576, .tup [.agg [.int .i64 (if rqC (bnB up uq vp gp gq (seg l s n) (seg T t m)) k (outB m th) (ckI (up, uq) (seg l s n) vp vb (gp, gq) (seg T t m) (seg L q k)) = 0 then (mrV (mrW (seg L q k) th)).1.1 else 0), .int .i64 (if rqC (bnB up uq vp gp gq (seg l s n) (seg T t m)) k (outB m th) (ckI (up, uq) (seg l s n) vp vb (gp, gq) (seg T t m) (seg L q k)) = 0 then (mrV (mrW (seg L q k) th)).1.2 else 0), .int .i64 (if rqC (bnB up uq vp gp gq (seg l s n) (seg T t m)) k (outB m th) (ckI (up, uq) (seg l s n) vp vb (gp, gq) (seg T t m) (seg L q k)) = 0 then (mrV (mrW (seg L q k) th)).2.1 else 0), .int .i64 (if rqC (bnB up uq vp gp gq (seg l s n) (seg T t m)) k (outB m th) (ckI (up, uq) (seg l s n) vp vb (gp, gq) (seg T t m) (seg L q k)) = 0 then (mrV (mrW (seg L q k) th)).2.2 else 0)], .int .i64 (if rqC (bnB up uq vp gp gq (seg l s n) (seg T t m)) k (outB m th) (ckI (up, uq) (seg l s n) vp vb (gp, gq) (seg T t m) (seg L q k)) = 0 then mrN (mrW (seg L q k) th) else 0), .int .i64 (if rqC (bnB up uq vp gp gq (seg l s n) (seg T t m)) k (outB m th) (ckI (up, uq) (seg l s n) vp vb (gp, gq) (seg T t m) (seg L q k)) = 0 then mrC (mrW (seg L q k) th) else rqC (bnB up uq vp gp gq (seg l s n) (seg T t m)) k (outB m th) (ckI (up, uq) (seg l s n) vp vb (gp, gq) (seg T t m) (seg L q k)))], [.arr (.prod (.int .i64) (.int .i64)) l 2 wr, .arr (.prod .str (.prod (.prod (.int .i64) (.int .i64)) (.prod (.int .i64) (.int .i64)))) T 5 wT, .arr (.prod (.prod (.int .i64) (.prod (.prod (.int .i64) (.int .i64)) (.prod (.int .i64) (.int .i64)))) (.prod (.prod (.int .i64) (.int .i64)) (.prod (.prod (.int .i64) (.int .i64)) (.prod (.prod (.int .i64) (.int .i64)) (.prod (.prod (.int .i64) (.int .i64)) (.prod (.int .i64) (.int .i64))))))) L 15 wL]⟩
  | _, _ => noSpec
attribute [local irreducible] rqC mrW onT ckI in
set_option maxHeartbeats 3200000 in
theorem ok_MeetReportsI : SpecOk Tryz.prog 25 s_meetI := by
  intro args S h; unfold s_meetI at h ⊢; (split at h <;> first | exact False.elim h | skip)
  dsimp only at h ⊢
  rename_i up uq s n x vp vb gp gq t m y q k z th l wr T wT L wL
  obtain ⟨hq, hk⟩ := h
  have hLk := seg_len hk.1
  have hany : ∀ a : Int, List.any (seg [a] 0 1) (outB m) = outB m a := fun a => by simp [seg]
  by_cases hrq : rqC (bnB up uq vp gp gq (seg l s n) (seg T t m)) k (outB m th) (ckI (up, uq) (seg l s n) vp vb (gp, gq) (seg T t m) (seg L q k)) = 0
  · have h0 := rq_0 hrq
    have hacc := ck_all h0.2.2.2
    simp only [hrq, if_true]
    have hcn : decide (rqC (bnB up uq vp gp gq (seg l s n) (seg T t m)) k (List.any (seg [th] 0 1) (outB m)) (ckI (up, uq) (seg l s n) vp vb (gp, gq) (seg T t m) (seg L q k)) ≠ 0) = false := by rw [hany, hrq]; rfl
    have hF : ∀ r ∈ onT (seg L q k) th, accB (up, uq) (seg l s n) vp vb (gp, gq) (seg T t m) r = true := fun r hr => hacc r (on_mem hr)
    have hW : ∀ a ∈ mrW (seg L q k) th, spB a = true := fun a ha => by
      unfold mrW at ha
      obtain ⟨r, hr, rfl⟩ := List.mem_map.1 ha
      exact (acc_sp h0.1 (hF r hr)).1
    have hon : (onT (seg L q k) th).length ≤ k := Nat.le_trans on_le (Nat.le_of_eq hLk)
    have hWl : (mrW (seg L q k) th).length = (onT (seg L q k) th).length := by unfold mrW; simp
    refine funW tabOk (E := [(53, s_rqC), (54, s_on), (55, s_mAll)]) ⟨ok_reportsCode, ok_reportsOn, ok_meetAll, trivial⟩ [] (k := 3) (fn := Tryz.f25) rfl rfl rfl rfl rfl rfl ?_
    (repeat' ((try (conv => whnf)); first | (with_reducible first | refine And.intro ?_ ?_ | refine WX.of ?_) | exact zc | ((with_reducible refine VC.mk ?_); exact zw) | ((with_reducible refine splitT_of ?_ ?_); (focus (simp only [hcn, Bool.not_true, Bool.not_false, decide_true, decide_false]; done))) | ((with_reducible refine splitF_of ?_ ?_); (focus (simp only [hcn, Bool.not_true, Bool.not_false, decide_true, decide_false]; done))) | ((with_reducible refine VC.mk ?_); exact ⟨⟨hq, hk⟩, by simp, by omega⟩) | ((with_reducible refine VC.mk ?_); exact hk) | (with_reducible first | refine splitT ?_ | refine splitF ?_) | ((with_reducible refine splitM.mk (fun hsm => ?_) (fun hsm => ?_)) <;> (try exact zx)) | ((with_reducible refine splitB.mk (fun h => ?_) (fun h => ?_)) <;> (try simp only [zs, ne_eq] at h) <;> (try simp (disch := omega) only [w64] at h) <;> (try exact zx)) | (with_reducible intro hz; (try exact absurd hz (Nat.succ_ne_zero _)))))
    refine loopW tabOk (E := [(53, s_rqC), (54, s_on), (55, s_mAll)]) ⟨ok_reportsCode, ok_reportsOn, ok_meetAll, trivial⟩ [] (σ := Nat) (fun i => [(6, .ptr 3 0 0), (10, .sl 4 0 i 0), (27, .sl 5 0 (onT (seg L q k) th).length (k - (onT (seg L q k) th).length)), (28, .int .i64 (onT (seg L q k) th).length), (29, .int .i64 i)]) (fun i => [.arr (.prod (.int .i64) (.int .i64)) l 2 wr, .arr (.prod .str (.prod (.prod (.int .i64) (.int .i64)) (.prod (.int .i64) (.int .i64)))) T 5 wT, .arr (.prod (.prod (.int .i64) (.prod (.prod (.int .i64) (.int .i64)) (.prod (.int .i64) (.int .i64)))) (.prod (.prod (.int .i64) (.int .i64)) (.prod (.prod (.int .i64) (.int .i64)) (.prod (.prod (.int .i64) (.int .i64)) (.prod (.prod (.int .i64) (.int .i64)) (.prod (.int .i64) (.int .i64))))))) L 15 wL, .arr (.prod (.prod (.int .i64) (.int .i64)) (.prod (.int .i64) (.int .i64))) [((0, 0), 0, 0)] 0 true, .arr (.prod (.prod (.int .i64) (.int .i64)) (.prod (.int .i64) (.int .i64))) ((mrW (seg L q k) th).take i) 4 true, .arr (.prod (.prod (.int .i64) (.prod (.prod (.int .i64) (.int .i64)) (.prod (.int .i64) (.int .i64)))) (.prod (.prod (.int .i64) (.int .i64)) (.prod (.prod (.int .i64) (.int .i64)) (.prod (.prod (.int .i64) (.int .i64)) (.prod (.prod (.int .i64) (.int .i64)) (.prod (.int .i64) (.int .i64))))))) (onT (seg L q k) th ++ List.replicate (k - (onT (seg L q k) th).length) rp0) 15 true]) (fun i => (onT (seg L q k) th).length - i) (fun i => i ≤ (onT (seg L q k) th).length) 0 (Nat.zero_le _) ?_ ?_
    · (repeat' ((try (conv => whnf)); first | (with_reducible first | refine And.intro ?_ ?_ | refine WX.of ?_) | exact zc | ((with_reducible refine VC.mk ?_); exact zw) | (with_reducible first | refine splitT ?_ | refine splitF ?_) | ((with_reducible refine splitM.mk (fun hsm => ?_) (fun hsm => ?_)) <;> (try exact zx)) | ((with_reducible refine splitB.mk (fun h => ?_) (fun h => ?_)) <;> (try simp only [zs, ne_eq] at h) <;> (try simp (disch := omega) only [w64] at h) <;> (try exact zx)) | (with_reducible intro hz; (try exact absurd hz (Nat.succ_ne_zero _)))))
    · intro i hi
      have hlen : ((mrW (seg L q k) th).take i).length = i := by rw [List.length_take]; omega
      by_cases hlt : i < (onT (seg L q k) th).length
      · obtain ⟨r, ha⟩ := get_some (l := onT (seg L q k) th) (i := i) hlt
        have hb := (on_get (R := List.replicate (k - (onT (seg L q k) th).length) rp0) hlt).trans ha
        have hw : (mrW (seg L q k) th)[i]? = some (spR r) := by unfold mrW; rw [List.getElem?_map, ha]; rfl
        (repeat' ((try (conv => whnf)); first | (with_reducible first | refine And.intro ?_ ?_ | refine WX.of ?_) | exact zc | ((with_reducible refine VC.mk ?_); exact zw) | refine atL_0 hb ?_ | (with_reducible first | refine splitT ?_ | refine splitF ?_) | ((with_reducible refine splitM.mk (fun hsm => ?_) (fun hsm => ?_)) <;> (try exact zx)) | ((with_reducible refine splitB.mk (fun h => ?_) (fun h => ?_)) <;> (try simp only [zs, ne_eq] at h) <;> (try simp (disch := omega) only [w64] at h) <;> (try exact zx)) | (with_reducible intro hz; (try exact absurd hz (Nat.succ_ne_zero _)))))
        refine ⟨i + 1, by omega, hlt, ?_⟩
        (repeat' ((try (conv => whnf)); first | (with_reducible first | refine And.intro ?_ ?_ | refine WX.of ?_) | exact zc | ((with_reducible refine VC.mk ?_); exact zw) | (with_reducible first | refine splitT ?_ | refine splitF ?_) | ((with_reducible refine splitM.mk (fun hsm => ?_) (fun hsm => ?_)) <;> (try exact zx)) | ((with_reducible refine splitB.mk (fun h => ?_) (fun h => ?_)) <;> (try simp only [zs, ne_eq] at h) <;> (try simp (disch := omega) only [w64] at h) <;> (try exact zx)) | (with_reducible intro hz; (try exact absurd hz (Nat.succ_ne_zero _)))))
        exact ⟨app_take hw⟩
      · obtain rfl : i = (onT (seg L q k) th).length := by omega
        rw [List.take_of_length_le (by omega)]
        have hsg : seg (mrW (seg L q k) th) 0 (onT (seg L q k) th).length = mrW (seg L q k) th := seg_full hWl
        (repeat' ((try (conv => whnf)); first | (with_reducible first | refine And.intro ?_ ?_ | refine WX.of ?_) | exact zc | ((with_reducible refine VC.mk ?_); exact zw) | ((with_reducible refine VC.mk ?_); exact ⟨by omega, by omega, by omega, by rw [hsg]; exact hW⟩) | (with_reducible first | refine splitT ?_ | refine splitF ?_) | ((with_reducible refine splitM.mk (fun hsm => ?_) (fun hsm => ?_)) <;> (try exact zx)) | ((with_reducible refine splitB.mk (fun h => ?_) (fun h => ?_)) <;> (try simp only [zs, ne_eq] at h) <;> (try simp (disch := omega) only [w64] at h) <;> (try exact zx)) | (with_reducible intro hz; (try exact absurd hz (Nat.succ_ne_zero _)))))
        · obtain ⟨e1, e2, e3⟩ := mr_0 (W := mrW (seg L q k) th) (List.eq_nil_of_length_eq_zero (by omega))
          exact ⟨by rw [e1, e2, e3]⟩
        · rename_i hne
          rw [hsg] at h
          cases hm : mtN (mrW (seg L q k) th) (onT (seg L q k) th).length with
          | some v => rw [hm] at h; exact absurd rfl h
          | none =>
            obtain ⟨e1, e2, e3⟩ := mr_4 (mr_ne hne) (by rw [hWl]; exact hm)
            exact ⟨by rw [e1, e2, e3]⟩
        · rename_i hne
          rw [hsg] at h
          cases hm : mtN (mrW (seg L q k) th) (onT (seg L q k) th).length with
          | none => rw [hm] at h; exact absurd h (by decide)
          | some v =>
            obtain ⟨e1, e2, e3⟩ := mr_1 (mr_ne hne) (by rw [hWl]; exact hm)
            exact ⟨by rw [e1, e2, e3, hsg, hm, hWl]; rfl⟩
  · simp only [hrq, if_false]
    have hcn : decide (rqC (bnB up uq vp gp gq (seg l s n) (seg T t m)) k (List.any (seg [th] 0 1) (outB m)) (ckI (up, uq) (seg l s n) vp vb (gp, gq) (seg T t m) (seg L q k)) ≠ 0) = true := by rw [hany]; exact decide_eq_true hrq
    refine funW tabOk (E := [(53, s_rqC)]) ⟨ok_reportsCode, trivial⟩ [] (k := 3) (fn := Tryz.f25) rfl rfl rfl rfl rfl rfl ?_
    (repeat' ((try (conv => whnf)); first | (with_reducible first | refine And.intro ?_ ?_ | refine WX.of ?_) | exact zc | ((with_reducible refine VC.mk ?_); exact zw) | ((with_reducible refine splitT_of ?_ ?_); (focus (simp only [hcn, Bool.not_true, Bool.not_false, decide_true, decide_false]; done))) | ((with_reducible refine splitF_of ?_ ?_); (focus (simp only [hcn, Bool.not_true, Bool.not_false, decide_true, decide_false]; done))) | ((with_reducible refine VC.mk ?_); exact ⟨⟨hq, hk⟩, by simp, by omega⟩) | (with_reducible first | refine splitT ?_ | refine splitF ?_) | ((with_reducible refine splitM.mk (fun hsm => ?_) (fun hsm => ?_)) <;> (try exact zx)) | ((with_reducible refine splitB.mk (fun h => ?_) (fun h => ?_)) <;> (try simp only [zs, ne_eq] at h) <;> (try simp (disch := omega) only [w64] at h) <;> (try exact zx)) | (with_reducible intro hz; (try exact absurd hz (Nat.succ_ne_zero _)))))
    all_goals exact ⟨by rw [hany]⟩
/-- The same on the reference's side: what is in the spans of all reports on a thing. -/
def s_l07Meet : Spec := fun args S => match args, S with
  | [.sl 0 q k z, .int .i64 th], [.arr (.prod (.prod (.int .i64) (.prod (.prod (.int .i64) (.int .i64)) (.prod (.int .i64) (.int .i64)))) (.prod (.prod (.int .i64) (.int .i64)) (.prod (.prod (.int .i64) (.int .i64)) (.prod (.prod (.int .i64) (.int .i64)) (.prod (.prod (.int .i64) (.int .i64)) (.prod (.int .i64) (.int .i64))))))) L 15 wL] => ⟨(q + k ≤ L.length ∧ k ≤ 1048576) ∧ ∀ r ∈ seg L q k, spB (spR r) = true, .tup [.agg [.int .i64 (mrV (mrW (seg L q k) th)).1.1, .int .i64 (mrV (mrW (seg L q k) th)).1.2, .int .i64 (mrV (mrW (seg L q k) th)).2.1, .int .i64 (mrV (mrW (seg L q k) th)).2.2], .int .i64 (mrN (mrW (seg L q k) th)), .int .i64 (mrC (mrW (seg L q k) th))], [.arr (.prod (.prod (.int .i64) (.prod (.prod (.int .i64) (.int .i64)) (.prod (.int .i64) (.int .i64)))) (.prod (.prod (.int .i64) (.int .i64)) (.prod (.prod (.int .i64) (.int .i64)) (.prod (.prod (.int .i64) (.int .i64)) (.prod (.prod (.int .i64) (.int .i64)) (.prod (.int .i64) (.int .i64))))))) L 15 wL]⟩
  | _, _ => noSpec
theorem on_step {L : List RpT} {th : Int} {i : Nat} {r : RpT} (ha : L[i]? = some r) : mrW (L.take (i + 1)) th = mrW (L.take i) th ++ (if r.1.1 = th then [spR r] else []) := by
  unfold mrW onT
  rw [kp_step ha, List.map_append]
  by_cases h : r.1.1 = th
  · simp [h]
  · simp [h]
theorem mtN_app {W R : List SpT} : ∀ {i : Nat}, i ≤ W.length → 0 < W.length → mtN (W ++ R) i = mtN W i
  | 0, _, h => by unfold mtN; rw [List.getElem?_append_left h]
  | i + 1, h, h0 => by unfold mtN; rw [mtN_app (by omega) h0, List.getElem?_append_left (by omega)]
/-- What is there behind the first i. -/
def mrI (W : List SpT) (s : SpT) : Prop := (W = [] ∧ s = ((0, 0), 0, 0)) ∨ (W ≠ [] ∧ mtN W W.length = some s)
theorem mrI_one {s : SpT} (h : spB s = true) : mrI [s] s := by
  refine .inr ⟨by simp, ?_⟩
  have hm := mt_self h
  show mtN [s] 1 = some s
  rw [mtN_step (s := s) (a := s) rfl rfl, if_pos hm.2, hm.1]
theorem mrI_some {W : List SpT} {s a : SpT} (h : mtN W W.length = some s) (hW : W ≠ []) : mtN (W ++ [a]) (W ++ [a]).length = if mtOk s a = true then some (mtS s a) else none := by
  have hp : 0 < W.length := by cases W with | nil => exact absurd rfl hW | cons a b => simp
  rw [List.length_append, List.length_singleton]
  exact mtN_step (by rw [mtN_app (Nat.le_refl _) hp]; exact h) (by simp)
theorem mrW_le {L : List RpT} {th : Int} {i : Nat} : mrW L th = mrW (L.take i) th ++ mrW (L.drop i) th := by
  unfold mrW onT
  rw [← List.map_append, ← List.filter_append, List.take_append_drop]
theorem mtN_stop {W R : List SpT} (hW : W ≠ []) (h : mtN W W.length = none) : mtN (W ++ R) (W ++ R).length = none := by
  have hp : 0 < W.length := by cases W with | nil => exact absurd rfl hW | cons a b => simp
  rw [List.length_append]
  exact mtN_none (by rw [mtN_app (Nat.le_refl _) hp]; exact h) R.length
attribute [local irreducible] mrW mrC mrV mrN in
set_option maxHeartbeats 1600000 in
theorem ok_l07Meet : SpecOk Tryz.prog 52 s_l07Meet := by
  intro args S h; unfold s_l07Meet at h ⊢; (split at h <;> first | exact False.elim h | skip)
  dsimp only at h ⊢
  rename_i q k z th L wL
  obtain ⟨hk, hsp⟩ := h
  have hLk := seg_len hk.1
  refine funW tabOk (E := [(97, s_meet)]) ⟨ok_l01Meet, trivial⟩ [] (k := 1) (fn := Tryz.f52) rfl rfl rfl rfl rfl rfl ?_
  (repeat' ((try (conv => whnf)); first | (with_reducible first | refine And.intro ?_ ?_ | refine WX.of ?_) | exact zc | ((with_reducible refine VC.mk ?_); exact zw) | (with_reducible first | refine splitT ?_ | refine splitF ?_) | ((with_reducible refine splitM.mk (fun hsm => ?_) (fun hsm => ?_)) <;> (try exact zx)) | ((with_reducible refine splitB.mk (fun h => ?_) (fun h => ?_)) <;> (try simp only [zs, ne_eq] at h) <;> (try simp (disch := omega) only [w64] at h) <;> (try exact zx)) | (with_reducible intro hz; (try exact absurd hz (Nat.succ_ne_zero _)))))
  refine loopW tabOk (E := [(97, s_meet)]) ⟨ok_l01Meet, trivial⟩ [] (σ := Nat × SpT) (fun s => [(0, .sl 0 q k z), (1, .int .i64 th), (4, .ptr 1 0 0), (7, .ptr 2 0 0), (8, .int .i64 (mrW ((seg L q k).take s.1) th).length), (9, .int .i64 s.1)]) (fun s => [.arr (.prod (.prod (.int .i64) (.prod (.prod (.int .i64) (.int .i64)) (.prod (.int .i64) (.int .i64)))) (.prod (.prod (.int .i64) (.int .i64)) (.prod (.prod (.int .i64) (.int .i64)) (.prod (.prod (.int .i64) (.int .i64)) (.prod (.prod (.int .i64) (.int .i64)) (.prod (.int .i64) (.int .i64))))))) L 15 wL, .arr (.prod (.prod (.int .i64) (.int .i64)) (.prod (.int .i64) (.int .i64))) [((0, 0), 0, 0)] 0 true, .arr (.prod (.prod (.int .i64) (.int .i64)) (.prod (.int .i64) (.int .i64))) [s.2] 0 true]) (fun s => k - s.1) (fun s => s.1 ≤ k ∧ mrI (mrW ((seg L q k).take s.1) th) s.2) (0, ((0, 0), 0, 0)) ⟨Nat.zero_le _, .inl ⟨by unfold mrW; rfl, rfl⟩⟩ ?_ ?_
  · (repeat' ((try (conv => whnf)); first | (with_reducible first | refine And.intro ?_ ?_ | refine WX.of ?_) | exact zc | ((with_reducible refine VC.mk ?_); exact zw) | (with_reducible first | refine splitT ?_ | refine splitF ?_) | ((with_reducible refine splitM.mk (fun hsm => ?_) (fun hsm => ?_)) <;> (try exact zx)) | ((with_reducible refine splitB.mk (fun h => ?_) (fun h => ?_)) <;> (try simp only [zs, ne_eq] at h) <;> (try simp (disch := omega) only [w64] at h) <;> (try exact zx)) | (with_reducible intro hz; (try exact absurd hz (Nat.succ_ne_zero _)))))
    refine VC.mk ?_
    unfold mrW; rfl
  · intro ⟨i, s⟩ ⟨hi, hm⟩
    dsimp only at hi hm ⊢
    by_cases hlt : i < k
    · obtain ⟨r, ha⟩ := get_some (l := seg L q k) (i := i) (by omega)
      have hst := on_step (th := th) ha
      have hr := hsp r (List.mem_of_getElem? ha)
      by_cases hth : r.1.1 = th
      · have hthd : decide (r.1.1 ≠ th) = false := decide_eq_false (fun e => e hth)
        rw [if_pos hth] at hst
        rcases hm with ⟨hm0, hs0⟩ | ⟨hm0, hs0⟩
        · have hl0 : decide (0 < ((mrW ((seg L q k).take i) th).length : Int)) = false := by rw [hm0]; rfl
          (repeat' ((try (conv => whnf)); first | (with_reducible first | refine And.intro ?_ ?_ | refine WX.of ?_) | exact zc | ((with_reducible refine VC.mk ?_); exact zw) | with_reducible refine atL_i ha ?_ | ((with_reducible refine splitT_of ?_ ?_); (focus (simp only [hthd, hl0, Bool.not_true, Bool.not_false, decide_true, decide_false]; done))) | ((with_reducible refine splitF_of ?_ ?_); (focus (simp only [hthd, hl0, Bool.not_true, Bool.not_false, decide_true, decide_false]; done))) | (with_reducible first | refine splitT ?_ | refine splitF ?_) | ((with_reducible refine splitM.mk (fun hsm => ?_) (fun hsm => ?_)) <;> (try exact zx)) | ((with_reducible refine splitB.mk (fun h => ?_) (fun h => ?_)) <;> (try simp only [zs, ne_eq] at h) <;> (try simp (disch := omega) only [w64] at h) <;> (try exact zx)) | (with_reducible intro hz; (try exact absurd hz (Nat.succ_ne_zero _)))))
          refine ⟨(i + 1, spR r), by dsimp only; omega, ⟨hlt, by dsimp only; rw [hst, hm0]; exact mrI_one hr⟩, ?_⟩
          dsimp only
          rw [hst, hm0]
          (repeat' ((try (conv => whnf)); first | (with_reducible first | refine And.intro ?_ ?_ | refine WX.of ?_) | exact zc | ((with_reducible refine VC.mk ?_); exact zw) | (with_reducible first | refine splitT ?_ | refine splitF ?_) | ((with_reducible refine splitM.mk (fun hsm => ?_) (fun hsm => ?_)) <;> (try exact zx)) | ((with_reducible refine splitB.mk (fun h => ?_) (fun h => ?_)) <;> (try simp only [zs, ne_eq] at h) <;> (try simp (disch := omega) only [w64] at h) <;> (try exact zx)) | (with_reducible intro hz; (try exact absurd hz (Nat.succ_ne_zero _)))))
        · have hl0 : decide (0 < ((mrW ((seg L q k).take i) th).length : Int)) = true := decide_eq_true (by have : (mrW ((seg L q k).take i) th).length ≠ 0 := fun e => hm0 (List.eq_nil_of_length_eq_zero e); omega)
          have hll : (mrW ((seg L q k).take i) th).length ≤ i := by
            unfold mrW
            rw [List.length_map]
            exact Nat.le_trans on_le (List.length_take_le i _)
          have hs : spB s = true := mtN_ok (fun a ha => by
            unfold mrW at ha
            obtain ⟨r', hr', rfl⟩ := List.mem_map.1 ha
            exact hsp r' (List.mem_of_mem_take (on_mem hr'))) hs0
          have hs1 := spB_f hs
          have hr1 := spB_f hr
          have hnx := mrI_some (a := spR r) hs0 hm0
          cases hk2 : mtOk s (spR r) with
          | true =>
            rw [hk2, if_pos rfl] at hnx
            have hcn : decide ((moF s.1.1 s.1.2 (spR r).1.1 (spR r).1.2).1 * (leF s.2.1 s.2.2 (spR r).2.1 (spR r).2.2).2 ≤ (leF s.2.1 s.2.2 (spR r).2.1 (spR r).2.2).1 * (moF s.1.1 s.1.2 (spR r).1.1 (spR r).1.2).2) = true := hk2
            (repeat' ((try (conv => whnf)); first | (with_reducible first | refine And.intro ?_ ?_ | refine WX.of ?_) | exact zc | ((with_reducible refine VC.mk ?_); exact zw) | with_reducible refine atL_i ha ?_ | ((with_reducible refine splitT_of ?_ ?_); (focus (simp only [hthd, hl0, Bool.not_true, Bool.not_false, decide_true, decide_false]; done))) | ((with_reducible refine splitF_of ?_ ?_); (focus (simp only [hthd, hl0, Bool.not_true, Bool.not_false, decide_true, decide_false]; done))) | ((with_reducible refine splitF_of ?_ ?_); (focus (exact congrArg (!·) hk2))) | ((with_reducible refine VC.mk ?_); exact ⟨⟨smF_ok hs1.1, smF_ok hs1.2.1⟩, smF_ok hr1.1, smF_ok hr1.2.1⟩) | (with_reducible first | refine splitT ?_ | refine splitF ?_) | ((with_reducible refine splitM.mk (fun hsm => ?_) (fun hsm => ?_)) <;> (try exact zx)) | ((with_reducible refine splitB.mk (fun h => ?_) (fun h => ?_)) <;> (try simp only [zs, ne_eq] at h) <;> (try simp (disch := omega) only [w64] at h) <;> (try exact zx)) | (with_reducible intro hz; (try exact absurd hz (Nat.succ_ne_zero _)))))
            refine ⟨(i + 1, mtS s (spR r)), by dsimp only; omega, ⟨hlt, by dsimp only; rw [hst]; exact .inr ⟨by simp, hnx⟩⟩, ?_⟩
            dsimp only
            rw [hst]
            (repeat' ((try (conv => whnf)); first | (with_reducible first | refine And.intro ?_ ?_ | refine WX.of ?_) | exact zc | ((with_reducible refine VC.mk ?_); exact zw) | (with_reducible first | refine splitT ?_ | refine splitF ?_) | ((with_reducible refine splitM.mk (fun hsm => ?_) (fun hsm => ?_)) <;> (try exact zx)) | ((with_reducible refine splitB.mk (fun h => ?_) (fun h => ?_)) <;> (try simp only [zs, ne_eq] at h) <;> (try simp (disch := omega) only [w64] at h) <;> (try exact zx)) | (with_reducible intro hz; (try exact absurd hz (Nat.succ_ne_zero _)))))
            refine VC.mk ?_
            rw [w64 (by omega), List.length_append]; rfl
          | false =>
            rw [hk2, if_neg (by decide)] at hnx
            (repeat' ((try (conv => whnf)); first | (with_reducible first | refine And.intro ?_ ?_ | refine WX.of ?_) | exact zc | ((with_reducible refine VC.mk ?_); exact zw) | with_reducible refine atL_i ha ?_ | ((with_reducible refine splitT_of ?_ ?_); (focus (simp only [hthd, hl0, Bool.not_true, Bool.not_false, decide_true, decide_false]; done))) | ((with_reducible refine splitF_of ?_ ?_); (focus (simp only [hthd, hl0, Bool.not_true, Bool.not_false, decide_true, decide_false]; done))) | ((with_reducible refine splitT_of ?_ ?_); (focus (exact congrArg (!·) hk2))) | ((with_reducible refine VC.mk ?_); exact ⟨⟨smF_ok hs1.1, smF_ok hs1.2.1⟩, smF_ok hr1.1, smF_ok hr1.2.1⟩) | (with_reducible first | refine splitT ?_ | refine splitF ?_) | ((with_reducible refine splitM.mk (fun hsm => ?_) (fun hsm => ?_)) <;> (try exact zx)) | ((with_reducible refine splitB.mk (fun h => ?_) (fun h => ?_)) <;> (try simp only [zs, ne_eq] at h) <;> (try simp (disch := omega) only [w64] at h) <;> (try exact zx)) | (with_reducible intro hz; (try exact absurd hz (Nat.succ_ne_zero _)))))
            have hW0 : mrW (seg L q k) th = mrW ((seg L q k).take (i + 1)) th ++ mrW ((seg L q k).drop (i + 1)) th := mrW_le
            obtain ⟨e1, e2, e3⟩ := mr_4 (W := mrW (seg L q k) th) (by rw [hW0, hst]; simp) (by rw [hW0, hst]; exact mtN_stop (by simp) hnx)
            exact ⟨by rw [e1, e2, e3]⟩
      · have hthd : decide (r.1.1 ≠ th) = true := decide_eq_true hth
        rw [if_neg hth, List.append_nil] at hst
        (repeat' ((try (conv => whnf)); first | (with_reducible first | refine And.intro ?_ ?_ | refine WX.of ?_) | exact zc | ((with_reducible refine VC.mk ?_); exact zw) | with_reducible refine atL_i ha ?_ | ((with_reducible refine splitT_of ?_ ?_); (focus (simp only [hthd, Bool.not_true, Bool.not_false, decide_true, decide_false]; done))) | ((with_reducible refine splitF_of ?_ ?_); (focus (simp only [hthd, Bool.not_true, Bool.not_false, decide_true, decide_false]; done))) | (with_reducible first | refine splitT ?_ | refine splitF ?_) | ((with_reducible refine splitM.mk (fun hsm => ?_) (fun hsm => ?_)) <;> (try exact zx)) | ((with_reducible refine splitB.mk (fun h => ?_) (fun h => ?_)) <;> (try simp only [zs, ne_eq] at h) <;> (try simp (disch := omega) only [w64] at h) <;> (try exact zx)) | (with_reducible intro hz; (try exact absurd hz (Nat.succ_ne_zero _)))))
        refine ⟨(i + 1, s), by dsimp only; omega, ⟨hlt, by dsimp only; rw [hst]; exact hm⟩, ?_⟩
        dsimp only
        rw [hst]
        (repeat' ((try (conv => whnf)); first | (with_reducible first | refine And.intro ?_ ?_ | refine WX.of ?_) | exact zc | ((with_reducible refine VC.mk ?_); exact zw) | (with_reducible first | refine splitT ?_ | refine splitF ?_) | ((with_reducible refine splitM.mk (fun hsm => ?_) (fun hsm => ?_)) <;> (try exact zx)) | ((with_reducible refine splitB.mk (fun h => ?_) (fun h => ?_)) <;> (try simp only [zs, ne_eq] at h) <;> (try simp (disch := omega) only [w64] at h) <;> (try exact zx)) | (with_reducible intro hz; (try exact absurd hz (Nat.succ_ne_zero _)))))
    · obtain rfl : i = k := by omega
      rw [List.take_of_length_le (by omega)] at hm ⊢
      rcases hm with ⟨hm0, hs0⟩ | ⟨hm0, hs0⟩
      · obtain ⟨e1, e2, e3⟩ := mr_0 hm0
        rw [e1, e2, e3, hm0]
        (repeat' ((try (conv => whnf)); first | (with_reducible first | refine And.intro ?_ ?_ | refine WX.of ?_) | exact zc | ((with_reducible refine VC.mk ?_); exact zw) | (with_reducible first | refine splitT ?_ | refine splitF ?_) | ((with_reducible refine splitM.mk (fun hsm => ?_) (fun hsm => ?_)) <;> (try exact zx)) | ((with_reducible refine splitB.mk (fun h => ?_) (fun h => ?_)) <;> (try simp only [zs, ne_eq] at h) <;> (try simp (disch := omega) only [w64] at h) <;> (try exact zx)) | (with_reducible intro hz; (try exact absurd hz (Nat.succ_ne_zero _)))))
        all_goals (exfalso; simp at h)
      · obtain ⟨e1, e2, e3⟩ := mr_1 hm0 hs0
        have hl0 : decide (((mrW (seg L q i) th).length : Int) = 0) = false := decide_eq_false (by have : (mrW (seg L q i) th).length ≠ 0 := fun e => hm0 (List.eq_nil_of_length_eq_zero e); omega)
        rw [e1, e2, e3]
        (repeat' ((try (conv => whnf)); first | (with_reducible first | refine And.intro ?_ ?_ | refine WX.of ?_) | exact zc | ((with_reducible refine VC.mk ?_); exact zw) | ((with_reducible refine splitT_of ?_ ?_); (focus (simp only [hl0, Bool.not_true, Bool.not_false, decide_true, decide_false]; done))) | ((with_reducible refine splitF_of ?_ ?_); (focus (simp only [hl0, Bool.not_true, Bool.not_false, decide_true, decide_false]; done))) | (with_reducible first | refine splitT ?_ | refine splitF ?_) | ((with_reducible refine splitM.mk (fun hsm => ?_) (fun hsm => ?_)) <;> (try exact zx)) | ((with_reducible refine splitB.mk (fun h => ?_) (fun h => ?_)) <;> (try simp only [zs, ne_eq] at h) <;> (try simp (disch := omega) only [w64] at h) <;> (try exact zx)) | (with_reducible intro hz; (try exact absurd hz (Nat.succ_ne_zero _)))))
end Go.Proofs.YtbmejhabgoimeaaGreat.Eng
