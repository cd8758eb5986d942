/- Lemmas for the proof, no conditions of their own. -/
import Derived.Test.YtnmpgofhdjcpaaaQA3
set_option linter.unusedVariables false
set_option linter.unusedSimpArgs false
namespace Go.Proofs.Ytnmpgofhdjcpaaa.Eng
open Go Go.RowKit
set_option maxRecDepth 100000
def s_bothC : Spec := fun args S => match args, S with
  | [.agg [.int .i64 p, .int .i64 q], .int .i64 one, .agg [.int .i64 p', .int .i64 q'], .int .i64 two], [] => ⟨True, .tup [.agg [.int .i64 (if one = 0 ∧ two = 0 then p else 0), .int .i64 (if one = 0 ∧ two = 0 then q else 0), .int .i64 (if one = 0 ∧ two = 0 then p' else 0), .int .i64 (if one = 0 ∧ two = 0 then q' else 0)], .int .i64 (if one = 0 then two else one)], []⟩
  | _, _ => noSpec
theorem ok_l01BothC : SpecOk Try.prog 134 s_bothC := by
  intro args S h; unfold s_bothC at h ⊢; (split at h <;> first | exact False.elim h | skip)
  dsimp only at h ⊢
  rename_i p q one p' q' two
  refine funW tabOk (E := []) trivial [] (k := 0) (fn := Try.f134) rfl rfl rfl rfl rfl rfl ?_
  (repeat' ((try (conv => whnf)); first | (with_reducible first | refine And.intro ?_ ?_ | refine WX.of ?_) | exact zc | ((with_reducible refine VC.mk ?_); exact zw) | (with_reducible first | refine splitT ?_ | refine splitF ?_) | ((with_reducible refine splitM.mk (fun hsm => ?_) (fun hsm => ?_)) <;> (try exact zx)) | ((with_reducible refine splitB.mk (fun h => ?_) (fun h => ?_)) <;> (try simp only [zs, ne_eq] at h) <;> (try simp (disch := omega) only [w64] at h) <;> (try exact zx)) | (with_reducible intro hz; (try exact absurd hz (Nat.succ_ne_zero _)))))
  all_goals (refine ⟨?_⟩; simp_all)
def s_sums : Spec := fun args S => match args, S with
  | [.agg [.int .i64 p, .int .i64 q, .int .i64 p', .int .i64 q'], .agg [.int .i64 r, .int .i64 s, .int .i64 r', .int .i64 s']], [] => ⟨smS ((p, q), p', q') ∧ smS ((r, s), r', s'), .tup [.agg [.int .i64 (zsS (plO ((p, q), p', q') ((r, s), r', s'))).1.1, .int .i64 (zsS (plO ((p, q), p', q') ((r, s), r', s'))).1.2, .int .i64 (zsS (plO ((p, q), p', q') ((r, s), r', s'))).2.1, .int .i64 (zsS (plO ((p, q), p', q') ((r, s), r', s'))).2.2], .int .i64 (oCS (plO ((p, q), p', q') ((r, s), r', s')))], []⟩
  | _, _ => noSpec
theorem ok_l01Sums : SpecOk Try.prog 122 s_sums := by
  intro args S h; unfold s_sums at h ⊢; (split at h <;> first | exact False.elim h | skip)
  dsimp only at h ⊢
  rename_i p q p' q' r s r' s'
  obtain ⟨h1, h2⟩ := h
  refine funW tabOk (E := [(115, s_addZ), (134, s_bothC)]) ⟨ok_l01AddZ, ok_l01BothC, trivial⟩ [] (k := 0) (fn := Try.f122) rfl rfl rfl rfl rfl rfl ?_
  (repeat' ((try (conv => whnf)); first | (with_reducible first | refine And.intro ?_ ?_ | refine WX.of ?_) | exact zc | ((with_reducible refine VC.mk ?_); exact zw) | ((with_reducible refine VC.mk ?_); exact ⟨h1.1, h2.1⟩) | ((with_reducible refine VC.mk ?_); exact ⟨h1.2, h2.2⟩) | ((with_reducible refine VC.mk ?_); exact trivial) | (with_reducible first | refine splitT ?_ | refine splitF ?_) | ((with_reducible refine splitM.mk (fun hsm => ?_) (fun hsm => ?_)) <;> (try exact zx)) | ((with_reducible refine splitB.mk (fun h => ?_) (fun h => ?_)) <;> (try simp only [zs, ne_eq] at h) <;> (try simp (disch := omega) only [w64] at h) <;> (try exact zx)) | (with_reducible intro hz; (try exact absurd hz (Nat.succ_ne_zero _)))))
  all_goals (refine ⟨?_⟩; dsimp only [plO, spO]; cases ha : adO (p, q) (r, s) <;> cases hb : adO (p', q') (r', s') <;> simp [oC, oCS, zv, zsS])
def s_agst : Spec := fun args S => match args, S with
  | [.agg [.int .i64 p, .int .i64 q, .int .i64 p', .int .i64 q'], .agg [.int .i64 r, .int .i64 s, .int .i64 r', .int .i64 s']], [] => ⟨smS ((p, q), p', q') ∧ smS ((r, s), r', s'), .tup [.agg [.int .i64 (zsS (miO ((p, q), p', q') ((r, s), r', s'))).1.1, .int .i64 (zsS (miO ((p, q), p', q') ((r, s), r', s'))).1.2, .int .i64 (zsS (miO ((p, q), p', q') ((r, s), r', s'))).2.1, .int .i64 (zsS (miO ((p, q), p', q') ((r, s), r', s'))).2.2], .int .i64 (oCS (miO ((p, q), p', q') ((r, s), r', s')))], []⟩
  | _, _ => noSpec
theorem ad_neg (a b : FrT) : adO a (-b.1, b.2) = sbO a b := by unfold adO sbO; dsimp only; rw [Int.neg_mul, Int.sub_eq_add_neg]
theorem mi_pl (s t : SpT) : plO s ((-t.2.1, t.2.2), -t.1.1, t.1.2) = miO s t := by unfold plO miO; rw [ad_neg s.1 t.2, ad_neg s.2 t.1]
theorem ok_l01Against : SpecOk Try.prog 98 s_agst := by
  intro args S h; unfold s_agst at h ⊢; (split at h <;> first | exact False.elim h | skip)
  dsimp only at h ⊢
  rename_i p q p' q' r s r' s'
  obtain ⟨h1, h2⟩ := h
  have e := mi_pl ((p, q), p', q') ((r, s), r', s')
  dsimp only at e
  refine funW tabOk (E := [(84, s_neg), (122, s_sums)]) ⟨ok_l01Neg, ok_l01Sums, trivial⟩ [(1, [(0, 1), (0, 2), (5, 0)])] (k := 0) (fn := Try.f98) rfl rfl rfl rfl rfl rfl ?_
  (repeat' ((try dsimp only); (try (conv => whnf)); first | (with_reducible first | refine And.intro ?_ ?_ | refine WX.of ?_) | exact zc | ((with_reducible refine VC.mk ?_); exact zw) | ((with_reducible refine VC.mk ?_); exact h2.1) | ((with_reducible refine VC.mk ?_); exact h2.2) | ((with_reducible refine VC.mk ?_); exact ⟨h1, smF_neg h2.2, smF_neg h2.1⟩) | (with_reducible first | refine splitT ?_ | refine splitF ?_) | ((with_reducible refine splitM.mk (fun hsm => ?_) (fun hsm => ?_)) <;> (try exact zx)) | ((with_reducible refine splitB.mk (fun h => ?_) (fun h => ?_)) <;> (try simp only [zs, ne_eq] at h) <;> (try simp (disch := omega) only [w64] at h) <;> (try exact zx)) | (with_reducible intro hz; (try exact absurd hz (Nat.succ_ne_zero _)))))
  all_goals exact ⟨by rw [← e]⟩
def s_wider : Spec := fun args S => match args, S with
  | [.agg [.int .i64 p, .int .i64 q, .int .i64 p', .int .i64 q'], .agg [.int .i64 r, .int .i64 s], .int .i64 n], [] => ⟨smS ((p, q), p', q') ∧ smF r s ∧ -1000000000 ≤ n ∧ n ≤ 1000000000, .tup [.agg [.int .i64 (zsS (drO ((p, q), p', q') (r, s) n)).1.1, .int .i64 (zsS (drO ((p, q), p', q') (r, s) n)).1.2, .int .i64 (zsS (drO ((p, q), p', q') (r, s) n)).2.1, .int .i64 (zsS (drO ((p, q), p', q') (r, s) n)).2.2], .int .i64 (oCS (drO ((p, q), p', q') (r, s) n))], []⟩
  | _, _ => noSpec
theorem dr_1 {s : SpT} {d : FrT} {n : Int} (h : ¬ oC (muO d (n, 1)) = 0) : drO s d n = none ∧ oC (muO d (n, 1)) = 3 := by
  have := oC_n h
  unfold drO; rw [this]; exact ⟨rfl, rfl⟩
theorem dr_2 {s : SpT} {d : FrT} {n : Int} (h : oC (muO d (n, 1)) = 0) : drO s d n = spO (sbO s.1 (zv (muO d (n, 1)))) (adO s.2 (zv (muO d (n, 1)))) ∧ smF (zv (muO d (n, 1))).1 (zv (muO d (n, 1))).2 := by
  obtain ⟨v, e⟩ := oC_s h
  unfold drO; rw [e]; exact ⟨rfl, smF_ok (rO_f e)⟩
theorem sp_n1 {a b : Option FrT} (h : ¬ oC a = 0) : spO a b = none := by rw [oC_n h]; rfl
theorem sp_n2 {a b : Option FrT} (h : ¬ oC b = 0) : spO a b = none := by rw [oC_n h]; cases a <;> rfl
theorem sp_s {a b : Option FrT} (h : oC a = 0) (h2 : oC b = 0) : spO a b = some (zv a, zv b) := by
  obtain ⟨v, rfl⟩ := oC_s h
  obtain ⟨w, rfl⟩ := oC_s h2
  rfl
theorem ok_l05Wider : SpecOk Try.prog 101 s_wider := by
  intro args S h; unfold s_wider at h ⊢; (split at h <;> first | exact False.elim h | skip)
  dsimp only at h ⊢
  rename_i p q p' q' r s n
  obtain ⟨h1, h2, h3⟩ := h
  have hn := smF_1 h3
  by_cases hm : oC (muO (r, s) (n, 1)) = 0
  · have hd := dr_2 (s := ((p, q), p', q')) hm
    rw [hd.1]
    refine funW tabOk (E := [(80, s_num), (123, s_mulZ), (124, s_subZ), (115, s_addZ)]) ⟨ok_l01Whole, ok_l01MulZ, ok_l01SubZ, ok_l01AddZ, trivial⟩ [(1, [(7, 0)])] (k := 0) (fn := Try.f101) rfl rfl rfl rfl rfl rfl ?_
    (repeat' ((try dsimp only); (try (conv => whnf)); first | (with_reducible first | refine And.intro ?_ ?_ | refine WX.of ?_) | exact zc | ((with_reducible refine VC.mk ?_); exact zw) | ((with_reducible refine VC.mk ?_); exact ⟨h2, hn⟩) | ((with_reducible refine VC.mk ?_); exact ⟨h1.1, hd.2⟩) | ((with_reducible refine VC.mk ?_); exact ⟨h1.2, hd.2⟩) | ((with_reducible refine splitT_of ?_ ?_); (focus (simp only [hm, Bool.not_true, Bool.not_false, decide_true, decide_false]; done))) | ((with_reducible refine splitF_of ?_ ?_); (focus (simp only [hm, Bool.not_true, Bool.not_false, decide_true, decide_false]; done))) | (with_reducible first | refine splitT ?_ | refine splitF ?_) | ((with_reducible refine splitM.mk (fun hsm => ?_) (fun hsm => ?_)) <;> (try exact zx)) | ((with_reducible refine splitB.mk (fun h => ?_) (fun h => ?_)) <;> (try simp only [zs, ne_eq] at h) <;> (try simp (disch := omega) only [w64] at h) <;> (try exact zx)) | (with_reducible intro hz; (try exact absurd hz (Nat.succ_ne_zero _)))))
    · exact ⟨by rw [show spO (sbO (p, q) (zv (muO (r, s) (n, 1)))) (adO (p', q') (zv (muO (r, s) (n, 1)))) = none from sp_n1 h]; rfl⟩
    · exact ⟨by rw [show spO (sbO (p, q) (zv (muO (r, s) (n, 1)))) (adO (p', q') (zv (muO (r, s) (n, 1)))) = none from sp_n2 h]; rfl⟩
    · rename_i h0
      exact ⟨by rw [show spO (sbO (p, q) (zv (muO (r, s) (n, 1)))) (adO (p', q') (zv (muO (r, s) (n, 1)))) = _ from sp_s h0 h]; rfl⟩
  · have hd := dr_1 (s := ((p, q), p', q')) hm
    rw [hd.1]
    refine funW tabOk (E := [(80, s_num), (123, s_mulZ), (124, s_subZ), (115, s_addZ)]) ⟨ok_l01Whole, ok_l01MulZ, ok_l01SubZ, ok_l01AddZ, trivial⟩ [(1, [(7, 0)])] (k := 0) (fn := Try.f101) rfl rfl rfl rfl rfl rfl ?_
    (repeat' ((try dsimp only); (try (conv => whnf)); first | (with_reducible first | refine And.intro ?_ ?_ | refine WX.of ?_) | exact zc | ((with_reducible refine VC.mk ?_); exact zw) | ((with_reducible refine VC.mk ?_); exact ⟨h2, hn⟩) | ((with_reducible refine splitT_of ?_ ?_); (focus (simp only [hm, Bool.not_true, Bool.not_false, decide_true, decide_false]; done))) | ((with_reducible refine splitF_of ?_ ?_); (focus (simp only [hm, Bool.not_true, Bool.not_false, decide_true, decide_false]; done))) | (with_reducible first | refine splitT ?_ | refine splitF ?_) | ((with_reducible refine splitM.mk (fun hsm => ?_) (fun hsm => ?_)) <;> (try exact zx)) | ((with_reducible refine splitB.mk (fun h => ?_) (fun h => ?_)) <;> (try simp only [zs, ne_eq] at h) <;> (try simp (disch := omega) only [w64] at h) <;> (try exact zx)) | (with_reducible intro hz; (try exact absurd hz (Nat.succ_ne_zero _)))))
    · exact ⟨by rw [hd.2]; rfl⟩
def s_alongS : Spec := fun args S => match args, S with
  | [.sl 0 s n x, .sl 1 t m y, .agg [.int .i64 p, .int .i64 q, .int .i64 p', .int .i64 q'], .int .i64 day], [.arr (.prod .str (.prod (.int .i64) (.prod (.prod (.prod (.int .i64) (.int .i64)) (.prod (.int .i64) (.int .i64))) (.prod (.prod (.int .i64) (.int .i64)) (.prod (.int .i64) (.int .i64)))))) l 10 wr, .arr (.int .i64) w 1 ww] => ⟨(s + n ≤ l.length ∧ chB (seg l s n) = true) ∧ (t + m ≤ w.length ∧ m ≤ 40 ∧ ∀ j ∈ seg w t m, 0 ≤ j ∧ j < (seg l s n).length) ∧ (0 ≤ day ∧ day ≤ 100000) ∧ smS ((p, q), p', q'), .tup [.agg [.int .i64 (zsS (alO (seg l s n) day (seg w t m) ((p, q), p', q'))).1.1, .int .i64 (zsS (alO (seg l s n) day (seg w t m) ((p, q), p', q'))).1.2, .int .i64 (zsS (alO (seg l s n) day (seg w t m) ((p, q), p', q'))).2.1, .int .i64 (zsS (alO (seg l s n) day (seg w t m) ((p, q), p', q'))).2.2], .int .i64 (oCS (alO (seg l s n) day (seg w t m) ((p, q), p', q')))], [.arr (.prod .str (.prod (.int .i64) (.prod (.prod (.prod (.int .i64) (.int .i64)) (.prod (.int .i64) (.int .i64))) (.prod (.prod (.int .i64) (.int .i64)) (.prod (.int .i64) (.int .i64)))))) l 10 wr, .arr (.int .i64) w 1 ww]⟩
  | _, _ => noSpec
theorem dm_ok2 {a b : Int} (ha : 0 ≤ a ∧ a ≤ 100000) (hb : 0 ≤ b ∧ b ≤ 100000) : IntKind.i64.wrap (a - b) = a - b ∧ -1000000000 ≤ a - b ∧ a - b ≤ 1000000000 := ⟨w64 (by omega), by omega, by omega⟩
theorem al1_1 {s : SpT} {x : StT} {e : Int} (h : ¬ oCS (plO s x.2.2.1) = 0) : alO1 s x e = none ∧ oCS (plO s x.2.2.1) = 3 := by
  have := oCS_n h
  unfold alO1; rw [this]; exact ⟨rfl, rfl⟩
theorem al1_2 {s : SpT} {x : StT} {e : Int} (h : oCS (plO s x.2.2.1) = 0) : alO1 s x e = drO (zsS (plO s x.2.2.1)) x.2.2.2.1 (e - x.2.2.2.2.1) ∧ smS (zsS (plO s x.2.2.1)) := by
  obtain ⟨v, e⟩ := oCS_s h
  unfold alO1; rw [e]; exact ⟨rfl, smS_plO e⟩
theorem smS_drO {s v : SpT} {d : FrT} {n : Int} (h : drO s d n = some v) : smS v := by
  unfold drO at h
  obtain ⟨m, _, h⟩ := Option.bind_eq_some_iff.1 h
  exact smS_wdO h
set_option maxHeartbeats 1600000 in
theorem ok_l05Along : SpecOk Try.prog 96 s_alongS := by
  intro args S h; unfold s_alongS at h ⊢; (split at h <;> first | exact False.elim h | skip)
  dsimp only at h ⊢
  rename_i s n x t m y p q p' q' day l wr w ww
  obtain ⟨⟨h1, hc⟩, ⟨h3, h4, hW⟩, hd, hs⟩ := h
  have hL := seg_len h1
  have hM := seg_len h3
  have hl30 := ch_len hc
  refine funW tabOk (E := [(122, s_sums), (101, s_wider)]) ⟨ok_l01Sums, ok_l05Wider, trivial⟩ [(5, [(9, 0)]), (11, [(15, 0)])] (k := 2) (fn := Try.f96) rfl rfl rfl rfl rfl rfl ?_
  (repeat' ((try (conv => whnf)); first | (with_reducible first | refine And.intro ?_ ?_ | refine WX.of ?_) | exact zc | ((with_reducible refine VC.mk ?_); exact zw) | (with_reducible first | refine splitT ?_ | refine splitF ?_) | ((with_reducible refine splitM.mk (fun hsm => ?_) (fun hsm => ?_)) <;> (try exact zx)) | ((with_reducible refine splitB.mk (fun h => ?_) (fun h => ?_)) <;> (try simp only [zs, ne_eq] at h) <;> (try simp (disch := omega) only [w64] at h) <;> (try exact zx)) | (with_reducible intro hz; (try exact absurd hz (Nat.succ_ne_zero _)))))
  refine loopW tabOk (E := [(122, s_sums), (101, s_wider)]) ⟨ok_l01Sums, ok_l05Wider, trivial⟩ [(5, [(9, 0)]), (11, [(15, 0)])] (σ := Nat × SpT) (fun z => [(0, .sl 0 s n x), (1, .sl 1 t m y), (3, .int .i64 day), (6, .ptr 2 0 0), (8, .ptr 3 0 0), (9, .int .i64 0), (10, .int .i64 z.1)]) (fun z => [.arr (.prod .str (.prod (.int .i64) (.prod (.prod (.prod (.int .i64) (.int .i64)) (.prod (.int .i64) (.int .i64))) (.prod (.prod (.int .i64) (.int .i64)) (.prod (.int .i64) (.int .i64)))))) l 10 wr, .arr (.int .i64) w 1 ww, .arr (.prod (.prod (.int .i64) (.int .i64)) (.prod (.int .i64) (.int .i64))) [z.2] 0 true, .arr (.prod (.prod (.int .i64) (.int .i64)) (.prod (.int .i64) (.int .i64))) [((0, 0), 0, 0)] 0 true]) (fun z => m - z.1) (fun z => z.1 ≤ m ∧ smS z.2 ∧ alO (seg l s n) day (seg w t m) ((p, q), p', q') = alO (seg l s n) day ((seg w t m).drop z.1) z.2) (0, ((p, q), p', q')) ⟨Nat.zero_le _, hs, rfl⟩ ?_ ?_
  · (repeat' ((try (conv => whnf)); first | (with_reducible first | refine And.intro ?_ ?_ | refine WX.of ?_) | exact zc | ((with_reducible refine VC.mk ?_); exact zw) | (with_reducible first | refine splitT ?_ | refine splitF ?_) | ((with_reducible refine splitM.mk (fun hsm => ?_) (fun hsm => ?_)) <;> (try exact zx)) | ((with_reducible refine splitB.mk (fun h => ?_) (fun h => ?_)) <;> (try simp only [zs, ne_eq] at h) <;> (try simp (disch := omega) only [w64] at h) <;> (try exact zx)) | (with_reducible intro hz; (try exact absurd hz (Nat.succ_ne_zero _)))))
  · intro ⟨k, ⟨⟨cp, cq⟩, cp', cq'⟩⟩ ⟨hk, hsm, he⟩
    dsimp only at hk hsm he ⊢
    by_cases hlt : k < m
    · obtain ⟨i, hi⟩ := get_some (l := seg w t m) (i := k) (by omega)
      have hir := hW i (List.mem_of_getElem? hi)
      obtain ⟨⟨nm, fr, ⟨⟨p, q⟩, p', q'⟩, ⟨dp, dq⟩, md, gd⟩, ha, hst, ho⟩ := ch_z hc hir
      have hdb := dB hc hd hW (k + 1)
      have hir' := ir_n hir hL
      have hvl := smS_ok ho.vl
      have hdr := smF_ok ho.dr
      have hmd := ho.md
      dsimp only at hvl hdr hmd
      rw [drop_at hi, alO, hst] at he
      by_cases hpl : oCS (plO ((cp, cq), cp', cq') ((p, q), p', q')) = 0
      rotate_left 1
      · have h11 := al1_1 (x := (nm, fr, ((p, q), p', q'), (dp, dq), md, gd)) (e := nxD (seg l s n) day ((seg w t m).drop (k + 1))) hpl
        dsimp only at h11
        rw [h11.1, Option.bind_none] at he
        rw [he]
        (repeat' ((try dsimp only); (try (conv => whnf)); first | (with_reducible first | refine And.intro ?_ ?_ | refine WX.of ?_) | exact zc | ((with_reducible refine VC.mk ?_); exact zw) | with_reducible refine atL_i hi ?_ | with_reducible refine atL_p (seg_get ha).1 ?_ | ((with_reducible refine VC.mk ?_); exact hir') | ((with_reducible refine VC.mk ?_); exact ⟨hsm, hvl⟩) | ((with_reducible refine splitT_of ?_ ?_); (focus (simp only [hpl, Bool.not_true, Bool.not_false, decide_true, decide_false]; done))) | ((with_reducible refine splitF_of ?_ ?_); (focus (simp only [hpl, Bool.not_true, Bool.not_false, decide_true, decide_false]; done))) | (with_reducible first | refine splitT ?_ | refine splitF ?_) | ((with_reducible refine splitM.mk (fun hsm => ?_) (fun hsm => ?_)) <;> (try exact zx)) | ((with_reducible refine splitB.mk (fun h => ?_) (fun h => ?_)) <;> (try simp only [zs, ne_eq] at h) <;> (try simp (disch := omega) only [w64] at h) <;> (try exact zx)) | (with_reducible intro hz; (try exact absurd hz (Nat.succ_ne_zero _)))))
        all_goals exact ⟨by rw [h11.2]; rfl⟩
      have h12 := al1_2 (x := (nm, fr, ((p, q), p', q'), (dp, dq), md, gd)) (e := nxD (seg l s n) day ((seg w t m).drop (k + 1))) hpl
      dsimp only at h12
      rw [h12.1] at he
      by_cases hlast : k + 1 < m
      · obtain ⟨i2, hi2⟩ := get_some (l := seg w t m) (i := k + 1) (by omega)
        have hir2 := hW i2 (List.mem_of_getElem? hi2)
        obtain ⟨⟨nm0, fr0, ⟨⟨p0, q0⟩, p0', q0'⟩, ⟨dp0, dq0⟩, md0, gd0⟩, ha2, hst2, ho2⟩ := ch_z hc hir2
        have hir2' := ir_n hir2 hL
        have hnx : nxD (seg l s n) day ((seg w t m).drop (k + 1)) = md0 := by rw [drop_at hi2]; show stMd _ = md0; rw [hst2]; rfl
        rw [hnx] at he hdb
        (repeat' ((try dsimp only); (try (conv => whnf)); first | (with_reducible first | refine And.intro ?_ ?_ | refine WX.of ?_) | exact zc | ((with_reducible refine VC.mk ?_); exact zw) | with_reducible refine atL_i hi ?_ | with_reducible refine atL_p (seg_get ha).1 ?_ | with_reducible refine atL_p (seg_get ha2).1 ?_ | with_reducible refine atL_e (j := t + (k + 1)) (by simp (disch := omega) only [w64]; omega) (seg_get hi2).1 ?_ | ((with_reducible refine VC.mk ?_); exact hir') | ((with_reducible refine VC.mk ?_); exact hir2') | ((with_reducible refine VC.mk ?_); exact ⟨hsm, hvl⟩) | ((with_reducible refine VC.mk ?_); exact ⟨h12.2, hdr, by rw [(dm_ok2 hdb hmd).1]; exact (dm_ok2 hdb hmd).2⟩) | ((with_reducible refine splitT_of ?_ ?_); (focus (simp only [hpl, Bool.not_true, Bool.not_false, decide_true, decide_false]; done))) | ((with_reducible refine splitF_of ?_ ?_); (focus (simp only [hpl, Bool.not_true, Bool.not_false, decide_true, decide_false]; done))) | (with_reducible first | refine splitT ?_ | refine splitF ?_) | ((with_reducible refine splitM.mk (fun hsm => ?_) (fun hsm => ?_)) <;> (try exact zx)) | ((with_reducible refine splitB.mk (fun h => ?_) (fun h => ?_)) <;> (try simp only [zs, ne_eq] at h) <;> (try simp (disch := omega) only [w64] at h) <;> (try exact zx)) | (with_reducible intro hz; (try exact absurd hz (Nat.succ_ne_zero _)))))
        · have hn := oCS_n (o := drO (zsS (plO ((cp, cq), cp', cq') ((p, q), p', q'))) (dp, dq) (md0 - md)) h
          have hn2 : oCS (drO (((zsS (plO ((cp, cq), cp', cq') ((p, q), p', q'))).1.1, (zsS (plO ((cp, cq), cp', cq') ((p, q), p', q'))).1.2), (zsS (plO ((cp, cq), cp', cq') ((p, q), p', q'))).2.1, (zsS (plO ((cp, cq), cp', cq') ((p, q), p', q'))).2.2) (dp, dq) (md0 - md)) = 3 := by show oCS (drO (zsS (plO ((cp, cq), cp', cq') ((p, q), p', q'))) (dp, dq) (md0 - md)) = 3; rw [hn]; rfl
          rw [hn, Option.bind_none] at he
          exact ⟨by rw [he, (dm_ok2 hdb hmd).1, hn2]; rfl⟩
        · obtain ⟨v, hv⟩ := oCS_s (o := drO (zsS (plO ((cp, cq), cp', cq') ((p, q), p', q'))) (dp, dq) (md0 - md)) h
          have hv2 : drO (((zsS (plO ((cp, cq), cp', cq') ((p, q), p', q'))).1.1, (zsS (plO ((cp, cq), cp', cq') ((p, q), p', q'))).1.2), (zsS (plO ((cp, cq), cp', cq') ((p, q), p', q'))).2.1, (zsS (plO ((cp, cq), cp', cq') ((p, q), p', q'))).2.2) (dp, dq) (md0 - md) = some v := hv
          rw [hv, Option.bind_some] at he
          refine ⟨(k + 1, v), by dsimp only; omega, ⟨hlt, smS_drO hv, he⟩, ?_⟩
          (repeat' ((try (conv => whnf)); first | (with_reducible first | refine And.intro ?_ ?_ | refine WX.of ?_) | exact zc | ((with_reducible refine VC.mk ?_); exact zw) | (with_reducible first | refine splitT ?_ | refine splitF ?_) | ((with_reducible refine splitM.mk (fun hsm => ?_) (fun hsm => ?_)) <;> (try exact zx)) | ((with_reducible refine splitB.mk (fun h => ?_) (fun h => ?_)) <;> (try simp only [zs, ne_eq] at h) <;> (try simp (disch := omega) only [w64] at h) <;> (try exact zx)) | (with_reducible intro hz; (try exact absurd hz (Nat.succ_ne_zero _)))))
          all_goals exact ⟨by simp only [(dm_ok2 hdb hmd).1, hv2]; rfl⟩
      · have hnx : nxD (seg l s n) day ((seg w t m).drop (k + 1)) = day := by rw [drop_nil (by omega)]; rfl
        rw [hnx] at he hdb
        (repeat' ((try dsimp only); (try (conv => whnf)); first | (with_reducible first | refine And.intro ?_ ?_ | refine WX.of ?_) | exact zc | ((with_reducible refine VC.mk ?_); exact zw) | with_reducible refine atL_i hi ?_ | with_reducible refine atL_p (seg_get ha).1 ?_ | ((with_reducible refine VC.mk ?_); exact hir') | ((with_reducible refine VC.mk ?_); exact ⟨hsm, hvl⟩) | ((with_reducible refine VC.mk ?_); exact ⟨h12.2, hdr, by rw [(dm_ok2 hdb hmd).1]; exact (dm_ok2 hdb hmd).2⟩) | ((with_reducible refine splitT_of ?_ ?_); (focus (simp only [hpl, Bool.not_true, Bool.not_false, decide_true, decide_false]; done))) | ((with_reducible refine splitF_of ?_ ?_); (focus (simp only [hpl, Bool.not_true, Bool.not_false, decide_true, decide_false]; done))) | (with_reducible first | refine splitT ?_ | refine splitF ?_) | ((with_reducible refine splitM.mk (fun hsm => ?_) (fun hsm => ?_)) <;> (try exact zx)) | ((with_reducible refine splitB.mk (fun h => ?_) (fun h => ?_)) <;> (try simp only [zs, ne_eq] at h) <;> (try simp (disch := omega) only [w64] at h) <;> (try exact zx)) | (with_reducible intro hz; (try exact absurd hz (Nat.succ_ne_zero _)))))
        · have hn := oCS_n (o := drO (zsS (plO ((cp, cq), cp', cq') ((p, q), p', q'))) (dp, dq) (day - md)) h
          have hn2 : oCS (drO (((zsS (plO ((cp, cq), cp', cq') ((p, q), p', q'))).1.1, (zsS (plO ((cp, cq), cp', cq') ((p, q), p', q'))).1.2), (zsS (plO ((cp, cq), cp', cq') ((p, q), p', q'))).2.1, (zsS (plO ((cp, cq), cp', cq') ((p, q), p', q'))).2.2) (dp, dq) (day - md)) = 3 := by show oCS (drO (zsS (plO ((cp, cq), cp', cq') ((p, q), p', q'))) (dp, dq) (day - md)) = 3; rw [hn]; rfl
          rw [hn, Option.bind_none] at he
          exact ⟨by rw [he, (dm_ok2 hdb hmd).1, hn2]; rfl⟩
        · obtain ⟨v, hv⟩ := oCS_s (o := drO (zsS (plO ((cp, cq), cp', cq') ((p, q), p', q'))) (dp, dq) (day - md)) h
          have hv2 : drO (((zsS (plO ((cp, cq), cp', cq') ((p, q), p', q'))).1.1, (zsS (plO ((cp, cq), cp', cq') ((p, q), p', q'))).1.2), (zsS (plO ((cp, cq), cp', cq') ((p, q), p', q'))).2.1, (zsS (plO ((cp, cq), cp', cq') ((p, q), p', q'))).2.2) (dp, dq) (day - md) = some v := hv
          rw [hv, Option.bind_some] at he
          refine ⟨(k + 1, v), by dsimp only; omega, ⟨hlt, smS_drO hv, he⟩, ?_⟩
          (repeat' ((try (conv => whnf)); first | (with_reducible first | refine And.intro ?_ ?_ | refine WX.of ?_) | exact zc | ((with_reducible refine VC.mk ?_); exact zw) | (with_reducible first | refine splitT ?_ | refine splitF ?_) | ((with_reducible refine splitM.mk (fun hsm => ?_) (fun hsm => ?_)) <;> (try exact zx)) | ((with_reducible refine splitB.mk (fun h => ?_) (fun h => ?_)) <;> (try simp only [zs, ne_eq] at h) <;> (try simp (disch := omega) only [w64] at h) <;> (try exact zx)) | (with_reducible intro hz; (try exact absurd hz (Nat.succ_ne_zero _)))))
          all_goals exact ⟨by simp only [(dm_ok2 hdb hmd).1, hv2]; rfl⟩
    · obtain rfl : k = m := by omega
      rw [drop_nil (by omega), alO] at he
      rw [he]
      (repeat' ((try (conv => whnf)); first | (with_reducible first | refine And.intro ?_ ?_ | refine WX.of ?_) | exact zc | ((with_reducible refine VC.mk ?_); exact zw) | (with_reducible first | refine splitT ?_ | refine splitF ?_) | ((with_reducible refine splitM.mk (fun hsm => ?_) (fun hsm => ?_)) <;> (try exact zx)) | ((with_reducible refine splitB.mk (fun h => ?_) (fun h => ?_)) <;> (try simp only [zs, ne_eq] at h) <;> (try simp (disch := omega) only [w64] at h) <;> (try exact zx)) | (with_reducible intro hz; (try exact absurd hz (Nat.succ_ne_zero _)))))
end Go.Proofs.Ytnmpgofhdjcpaaa.Eng
set_option linter.unusedVariables false
set_option linter.unusedSimpArgs false
namespace Go.Proofs.Ytnmpgofhdjcpaaa.Eng
open Go Go.RowKit
set_option maxRecDepth 100000
def ixB (L : List StT) (i : Int) : Bool := decide (0 ≤ i ∧ i ≤ (L.length : Int) - 1)
theorem ix_ok {L : List StT} {i : Int} (h : ixB L i = true) : 0 ≤ i ∧ i < L.length := by unfold ixB at h; simp at h; omega
def s_cc1 : Spec := fun args S => match args, S with
  | [.int .i64 i, .ptr 0 0 0], [.box [.sl 1 t m y] true false, .arr (.prod .str (.prod (.int .i64) (.prod (.prod (.prod (.int .i64) (.int .i64)) (.prod (.int .i64) (.int .i64))) (.prod (.prod (.int .i64) (.int .i64)) (.prod (.int .i64) (.int .i64)))))) l 10 wr] => ⟨t + m ≤ l.length ∧ m ≤ 1048576, .bool (!ixB (seg l t m) i), [.box [.sl 1 t m y] true false, .arr (.prod .str (.prod (.int .i64) (.prod (.prod (.prod (.int .i64) (.int .i64)) (.prod (.int .i64) (.int .i64))) (.prod (.prod (.int .i64) (.int .i64)) (.prod (.int .i64) (.int .i64)))))) l 10 wr]⟩
  | _, _ => noSpec
theorem ok_chainCode1 : SpecOk Try.prog 89 s_cc1 := by
  intro args S h; unfold s_cc1 at h ⊢; (split at h <;> first | exact False.elim h | skip)
  dsimp only at h ⊢
  rename_i i t m y l wr
  have hL := seg_len h.1
  have e : ixB (seg l t m) i = decide (0 ≤ i ∧ i ≤ (m : Int) - 1) := by unfold ixB; rw [hL]
  rw [e]
  refine funW tabOk (E := [(71, s_within)]) ⟨ok_within, trivial⟩ [] (k := 2) (fn := Try.f89) rfl rfl rfl rfl rfl rfl ?_
  (repeat' ((try (conv => whnf)); first | (with_reducible first | refine And.intro ?_ ?_ | refine WX.of ?_) | exact zc | ((with_reducible refine VC.mk ?_); exact zw) | (with_reducible first | refine splitT ?_ | refine splitF ?_) | ((with_reducible refine splitM.mk (fun hsm => ?_) (fun hsm => ?_)) <;> (try exact zx)) | ((with_reducible refine splitB.mk (fun h => ?_) (fun h => ?_)) <;> (try simp only [zs, ne_eq] at h) <;> (try simp (disch := omega) only [w64] at h) <;> (try exact zx)) | (with_reducible intro hz; (try exact absurd hz (Nat.succ_ne_zero _)))))
  all_goals exact ⟨by rw [w64 (by omega)]⟩
def s_cc2 : Spec := fun args S => match args, S with
  | [.int .i64 d], [] => ⟨True, .bool (!dyB d), []⟩
  | _, _ => noSpec
theorem ok_chainCode2 : SpecOk Try.prog 90 s_cc2 := by
  intro args S h; unfold s_cc2 at h ⊢; (split at h <;> first | exact False.elim h | skip)
  dsimp only at h ⊢
  refine funW tabOk (E := [(71, s_within)]) ⟨ok_within, trivial⟩ [] (k := 0) (fn := Try.f90) rfl rfl rfl rfl rfl rfl ?_
  (repeat' ((try (conv => whnf)); first | (with_reducible first | refine And.intro ?_ ?_ | refine WX.of ?_) | exact zc | ((with_reducible refine VC.mk ?_); exact zw) | (with_reducible first | refine splitT ?_ | refine splitF ?_) | ((with_reducible refine splitM.mk (fun hsm => ?_) (fun hsm => ?_)) <;> (try exact zx)) | ((with_reducible refine splitB.mk (fun h => ?_) (fun h => ?_)) <;> (try simp only [zs, ne_eq] at h) <;> (try simp (disch := omega) only [w64] at h) <;> (try exact zx)) | (with_reducible intro hz; (try exact absurd hz (Nat.succ_ne_zero _)))))
def s_idxZ (g1 g2 : Nat) : Spec := fun args S => match args, S with
  | [.sl 0 s n x, .fn g [.ptr 1 0 0]], [.arr (.int .i64) w 1 ww, .box [.sl 2 t m y] true false, .arr (.prod .str (.prod (.int .i64) (.prod (.prod (.prod (.int .i64) (.int .i64)) (.prod (.int .i64) (.int .i64))) (.prod (.prod (.int .i64) (.int .i64)) (.prod (.int .i64) (.int .i64)))))) l 10 wr] => ⟨g = g1 ∧ (s + n ≤ w.length ∧ n ≤ 1048576) ∧ t + m ≤ l.length ∧ m ≤ 1048576, .int .i64 (findI (fun i => !ixB (seg l t m) i) (seg w s n)), [.arr (.int .i64) w 1 ww, .box [.sl 2 t m y] true false, .arr (.prod .str (.prod (.int .i64) (.prod (.prod (.prod (.int .i64) (.int .i64)) (.prod (.int .i64) (.int .i64))) (.prod (.prod (.int .i64) (.int .i64)) (.prod (.int .i64) (.int .i64)))))) l 10 wr]⟩
  | [.nils, .fn g [.ptr 0 0 0]], [.box [.sl 1 t m y] true false, .arr (.prod .str (.prod (.int .i64) (.prod (.prod (.prod (.int .i64) (.int .i64)) (.prod (.int .i64) (.int .i64))) (.prod (.prod (.int .i64) (.int .i64)) (.prod (.int .i64) (.int .i64)))))) l 10 wr] => ⟨g = g1, .int .i64 (-1), [.box [.sl 1 t m y] true false, .arr (.prod .str (.prod (.int .i64) (.prod (.prod (.prod (.int .i64) (.int .i64)) (.prod (.int .i64) (.int .i64))) (.prod (.prod (.int .i64) (.int .i64)) (.prod (.int .i64) (.int .i64)))))) l 10 wr]⟩
  | [.sl 0 s n x, .fn g []], [.arr (.int .i64) w 1 ww] => ⟨g = g2 ∧ s + n ≤ w.length ∧ n ≤ 1048576, .int .i64 (findI (fun i => !dyB i) (seg w s n)), [.arr (.int .i64) w 1 ww]⟩
  | [.nils, .fn g []], [] => ⟨g = g2, .int .i64 (-1), []⟩
  | _, _ => noSpec
set_option maxHeartbeats 1600000 in
theorem ok_idxZ : SpecOk Try.prog 120 (s_idxZ 89 90) := by
  intro args S h; unfold s_idxZ at h ⊢; (split at h <;> first | exact False.elim h | skip)
  dsimp only at h ⊢
  · rename_i s n x g w ww t m y l wr
    obtain ⟨rfl, ⟨h1, h2⟩, h3⟩ := h
    have hL := seg_len h1
    refine funW tabOk (E := [(89, s_cc1)]) ⟨ok_chainCode1, trivial⟩ [] (k := 3) (fn := Try.f120) rfl rfl rfl rfl rfl rfl ?_
    (repeat' ((try (conv => whnf)); first | (with_reducible first | refine And.intro ?_ ?_ | refine WX.of ?_) | exact zc | ((with_reducible refine VC.mk ?_); exact zw) | (with_reducible first | refine splitT ?_ | refine splitF ?_) | ((with_reducible refine splitM.mk (fun hsm => ?_) (fun hsm => ?_)) <;> (try exact zx)) | ((with_reducible refine splitB.mk (fun h => ?_) (fun h => ?_)) <;> (try simp only [zs, ne_eq] at h) <;> (try simp (disch := omega) only [w64] at h) <;> (try exact zx)) | (with_reducible intro hz; (try exact absurd hz (Nat.succ_ne_zero _)))))
    refine loopW tabOk (E := [(89, s_cc1)]) ⟨ok_chainCode1, trivial⟩ [] (σ := Nat) (fun i => [(0, .sl 0 s n x), (1, .fn 89 [.ptr 1 0 0]), (7, .int .i64 n), (8, .int .i64 i)]) (fun i => [.arr (.int .i64) w 1 ww, .box [.sl 2 t m y] true false, .arr (.prod .str (.prod (.int .i64) (.prod (.prod (.prod (.int .i64) (.int .i64)) (.prod (.int .i64) (.int .i64))) (.prod (.prod (.int .i64) (.int .i64)) (.prod (.int .i64) (.int .i64)))))) l 10 wr]) (fun i => n - i) (fun i => i ≤ n ∧ ∀ (j : Nat) (a : Int), j < i → (seg w s n)[j]? = some a → (fun i => !ixB (seg l t m) i) a = false) 0 ⟨Nat.zero_le _, fun j a hj => by omega⟩ ?_ ?_
    · (repeat' ((try (conv => whnf)); first | (with_reducible first | refine And.intro ?_ ?_ | refine WX.of ?_) | exact zc | ((with_reducible refine VC.mk ?_); exact zw) | (with_reducible first | refine splitT ?_ | refine splitF ?_) | ((with_reducible refine splitM.mk (fun hsm => ?_) (fun hsm => ?_)) <;> (try exact zx)) | ((with_reducible refine splitB.mk (fun h => ?_) (fun h => ?_)) <;> (try simp only [zs, ne_eq] at h) <;> (try simp (disch := omega) only [w64] at h) <;> (try exact zx)) | (with_reducible intro hz; (try exact absurd hz (Nat.succ_ne_zero _)))))
    · intro i ⟨hi, hp⟩
      by_cases hlt : i < n
      · obtain ⟨a, ha⟩ := get_some (l := seg w s n) (i := i) (by omega)
        (repeat' ((try (conv => whnf)); first | (with_reducible first | refine And.intro ?_ ?_ | refine WX.of ?_) | exact zc | ((with_reducible refine VC.mk ?_); exact zw) | with_reducible refine atL_i ha ?_ | ((with_reducible refine VC.mk ?_); exact h3) | (with_reducible first | refine splitT ?_ | refine splitF ?_) | ((with_reducible refine splitM.mk (fun hsm => ?_) (fun hsm => ?_)) <;> (try exact zx)) | ((with_reducible refine splitB.mk (fun h => ?_) (fun h => ?_)) <;> (try simp only [zs, ne_eq] at h) <;> (try simp (disch := omega) only [w64] at h) <;> (try exact zx)) | (with_reducible intro hz; (try exact absurd hz (Nat.succ_ne_zero _)))))
        · exact ⟨by rw [findI_some (p := fun i => !ixB (seg l t m) i) ha (by simp [h]) hp]⟩
        · refine ⟨i + 1, by omega, ⟨hlt, upto_step ha (by simp [h]) hp⟩, ?_⟩
          (repeat' ((try (conv => whnf)); first | (with_reducible first | refine And.intro ?_ ?_ | refine WX.of ?_) | exact zc | ((with_reducible refine VC.mk ?_); exact zw) | (with_reducible first | refine splitT ?_ | refine splitF ?_) | ((with_reducible refine splitM.mk (fun hsm => ?_) (fun hsm => ?_)) <;> (try exact zx)) | ((with_reducible refine splitB.mk (fun h => ?_) (fun h => ?_)) <;> (try simp only [zs, ne_eq] at h) <;> (try simp (disch := omega) only [w64] at h) <;> (try exact zx)) | (with_reducible intro hz; (try exact absurd hz (Nat.succ_ne_zero _)))))
      · (repeat' ((try (conv => whnf)); first | (with_reducible first | refine And.intro ?_ ?_ | refine WX.of ?_) | exact zc | ((with_reducible refine VC.mk ?_); exact zw) | (with_reducible first | refine splitT ?_ | refine splitF ?_) | ((with_reducible refine splitM.mk (fun hsm => ?_) (fun hsm => ?_)) <;> (try exact zx)) | ((with_reducible refine splitB.mk (fun h => ?_) (fun h => ?_)) <;> (try simp only [zs, ne_eq] at h) <;> (try simp (disch := omega) only [w64] at h) <;> (try exact zx)) | (with_reducible intro hz; (try exact absurd hz (Nat.succ_ne_zero _)))))
        exact ⟨by rw [findI_none (p := fun i => !ixB (seg l t m) i) fun j a hj => hp j a (by have := (List.getElem?_eq_some_iff.1 hj).1; omega) hj]⟩
  · obtain rfl := h
    refine funW tabOk (E := [(89, s_cc1)]) ⟨ok_chainCode1, trivial⟩ [] (k := 2) (fn := Try.f120) rfl rfl rfl rfl rfl rfl ?_
    (repeat' ((try (conv => whnf)); first | (with_reducible first | refine And.intro ?_ ?_ | refine WX.of ?_) | exact zc | ((with_reducible refine VC.mk ?_); exact zw) | (with_reducible first | refine splitT ?_ | refine splitF ?_) | ((with_reducible refine splitM.mk (fun hsm => ?_) (fun hsm => ?_)) <;> (try exact zx)) | ((with_reducible refine splitB.mk (fun h => ?_) (fun h => ?_)) <;> (try simp only [zs, ne_eq] at h) <;> (try simp (disch := omega) only [w64] at h) <;> (try exact zx)) | (with_reducible intro hz; (try exact absurd hz (Nat.succ_ne_zero _)))))
    refine loop1 tabOk (E := [(89, s_cc1)]) ⟨ok_chainCode1, trivial⟩ [] ?_
    (repeat' ((try (conv => whnf)); first | (with_reducible first | refine And.intro ?_ ?_ | refine WX.of ?_) | exact zc | ((with_reducible refine VC.mk ?_); exact zw) | (with_reducible first | refine splitT ?_ | refine splitF ?_) | ((with_reducible refine splitM.mk (fun hsm => ?_) (fun hsm => ?_)) <;> (try exact zx)) | ((with_reducible refine splitB.mk (fun h => ?_) (fun h => ?_)) <;> (try simp only [zs, ne_eq] at h) <;> (try simp (disch := omega) only [w64] at h) <;> (try exact zx)) | (with_reducible intro hz; (try exact absurd hz (Nat.succ_ne_zero _)))))
  · rename_i s n x g w ww
    obtain ⟨rfl, h1, h2⟩ := h
    have hL := seg_len h1
    refine funW tabOk (E := [(90, s_cc2)]) ⟨ok_chainCode2, trivial⟩ [] (k := 1) (fn := Try.f120) rfl rfl rfl rfl rfl rfl ?_
    (repeat' ((try (conv => whnf)); first | (with_reducible first | refine And.intro ?_ ?_ | refine WX.of ?_) | exact zc | ((with_reducible refine VC.mk ?_); exact zw) | (with_reducible first | refine splitT ?_ | refine splitF ?_) | ((with_reducible refine splitM.mk (fun hsm => ?_) (fun hsm => ?_)) <;> (try exact zx)) | ((with_reducible refine splitB.mk (fun h => ?_) (fun h => ?_)) <;> (try simp only [zs, ne_eq] at h) <;> (try simp (disch := omega) only [w64] at h) <;> (try exact zx)) | (with_reducible intro hz; (try exact absurd hz (Nat.succ_ne_zero _)))))
    refine loopW tabOk (E := [(90, s_cc2)]) ⟨ok_chainCode2, trivial⟩ [] (σ := Nat) (fun i => [(0, .sl 0 s n x), (1, .fn 90 []), (7, .int .i64 n), (8, .int .i64 i)]) (fun i => [.arr (.int .i64) w 1 ww]) (fun i => n - i) (fun i => i ≤ n ∧ ∀ (j : Nat) (a : Int), j < i → (seg w s n)[j]? = some a → (fun i => !dyB i) a = false) 0 ⟨Nat.zero_le _, fun j a hj => by omega⟩ ?_ ?_
    · (repeat' ((try (conv => whnf)); first | (with_reducible first | refine And.intro ?_ ?_ | refine WX.of ?_) | exact zc | ((with_reducible refine VC.mk ?_); exact zw) | (with_reducible first | refine splitT ?_ | refine splitF ?_) | ((with_reducible refine splitM.mk (fun hsm => ?_) (fun hsm => ?_)) <;> (try exact zx)) | ((with_reducible refine splitB.mk (fun h => ?_) (fun h => ?_)) <;> (try simp only [zs, ne_eq] at h) <;> (try simp (disch := omega) only [w64] at h) <;> (try exact zx)) | (with_reducible intro hz; (try exact absurd hz (Nat.succ_ne_zero _)))))
    · intro i ⟨hi, hp⟩
      by_cases hlt : i < n
      · obtain ⟨a, ha⟩ := get_some (l := seg w s n) (i := i) (by omega)
        (repeat' ((try (conv => whnf)); first | (with_reducible first | refine And.intro ?_ ?_ | refine WX.of ?_) | exact zc | ((with_reducible refine VC.mk ?_); exact zw) | with_reducible refine atL_i ha ?_ | (with_reducible first | refine splitT ?_ | refine splitF ?_) | ((with_reducible refine splitM.mk (fun hsm => ?_) (fun hsm => ?_)) <;> (try exact zx)) | ((with_reducible refine splitB.mk (fun h => ?_) (fun h => ?_)) <;> (try simp only [zs, ne_eq] at h) <;> (try simp (disch := omega) only [w64] at h) <;> (try exact zx)) | (with_reducible intro hz; (try exact absurd hz (Nat.succ_ne_zero _)))))
        · exact ⟨by rw [findI_some (p := fun i => !dyB i) ha (by simp [h]) hp]⟩
        · refine ⟨i + 1, by omega, ⟨hlt, upto_step ha (by simp [h]) hp⟩, ?_⟩
          (repeat' ((try (conv => whnf)); first | (with_reducible first | refine And.intro ?_ ?_ | refine WX.of ?_) | exact zc | ((with_reducible refine VC.mk ?_); exact zw) | (with_reducible first | refine splitT ?_ | refine splitF ?_) | ((with_reducible refine splitM.mk (fun hsm => ?_) (fun hsm => ?_)) <;> (try exact zx)) | ((with_reducible refine splitB.mk (fun h => ?_) (fun h => ?_)) <;> (try simp only [zs, ne_eq] at h) <;> (try simp (disch := omega) only [w64] at h) <;> (try exact zx)) | (with_reducible intro hz; (try exact absurd hz (Nat.succ_ne_zero _)))))
      · (repeat' ((try (conv => whnf)); first | (with_reducible first | refine And.intro ?_ ?_ | refine WX.of ?_) | exact zc | ((with_reducible refine VC.mk ?_); exact zw) | (with_reducible first | refine splitT ?_ | refine splitF ?_) | ((with_reducible refine splitM.mk (fun hsm => ?_) (fun hsm => ?_)) <;> (try exact zx)) | ((with_reducible refine splitB.mk (fun h => ?_) (fun h => ?_)) <;> (try simp only [zs, ne_eq] at h) <;> (try simp (disch := omega) only [w64] at h) <;> (try exact zx)) | (with_reducible intro hz; (try exact absurd hz (Nat.succ_ne_zero _)))))
        exact ⟨by rw [findI_none (p := fun i => !dyB i) fun j a hj => hp j a (by have := (List.getElem?_eq_some_iff.1 hj).1; omega) hj]⟩
  · obtain rfl := h
    refine funW tabOk (E := [(90, s_cc2)]) ⟨ok_chainCode2, trivial⟩ [] (k := 0) (fn := Try.f120) rfl rfl rfl rfl rfl rfl ?_
    (repeat' ((try (conv => whnf)); first | (with_reducible first | refine And.intro ?_ ?_ | refine WX.of ?_) | exact zc | ((with_reducible refine VC.mk ?_); exact zw) | (with_reducible first | refine splitT ?_ | refine splitF ?_) | ((with_reducible refine splitM.mk (fun hsm => ?_) (fun hsm => ?_)) <;> (try exact zx)) | ((with_reducible refine splitB.mk (fun h => ?_) (fun h => ?_)) <;> (try simp only [zs, ne_eq] at h) <;> (try simp (disch := omega) only [w64] at h) <;> (try exact zx)) | (with_reducible intro hz; (try exact absurd hz (Nat.succ_ne_zero _)))))
    refine loop1 tabOk (E := [(90, s_cc2)]) ⟨ok_chainCode2, trivial⟩ [] ?_
    (repeat' ((try (conv => whnf)); first | (with_reducible first | refine And.intro ?_ ?_ | refine WX.of ?_) | exact zc | ((with_reducible refine VC.mk ?_); exact zw) | (with_reducible first | refine splitT ?_ | refine splitF ?_) | ((with_reducible refine splitM.mk (fun hsm => ?_) (fun hsm => ?_)) <;> (try exact zx)) | ((with_reducible refine splitB.mk (fun h => ?_) (fun h => ?_)) <;> (try simp only [zs, ne_eq] at h) <;> (try simp (disch := omega) only [w64] at h) <;> (try exact zx)) | (with_reducible intro hz; (try exact absurd hz (Nat.succ_ne_zero _)))))
def s_anyZ (g1 g2 : Nat) : Spec := fun args S => match args, S with
  | [.sl 0 s n x, .fn g [.ptr 1 0 0]], [.arr (.int .i64) w 1 ww, .box [.sl 2 t m y] true false, .arr (.prod .str (.prod (.int .i64) (.prod (.prod (.prod (.int .i64) (.int .i64)) (.prod (.int .i64) (.int .i64))) (.prod (.prod (.int .i64) (.int .i64)) (.prod (.int .i64) (.int .i64)))))) l 10 wr] => ⟨g = g1 ∧ (s + n ≤ w.length ∧ n ≤ 1048576) ∧ t + m ≤ l.length ∧ m ≤ 1048576, .bool ((seg w s n).any fun i => !ixB (seg l t m) i), [.arr (.int .i64) w 1 ww, .box [.sl 2 t m y] true false, .arr (.prod .str (.prod (.int .i64) (.prod (.prod (.prod (.int .i64) (.int .i64)) (.prod (.int .i64) (.int .i64))) (.prod (.prod (.int .i64) (.int .i64)) (.prod (.int .i64) (.int .i64)))))) l 10 wr]⟩
  | [.nils, .fn g [.ptr 0 0 0]], [.box [.sl 1 t m y] true false, .arr (.prod .str (.prod (.int .i64) (.prod (.prod (.prod (.int .i64) (.int .i64)) (.prod (.int .i64) (.int .i64))) (.prod (.prod (.int .i64) (.int .i64)) (.prod (.int .i64) (.int .i64)))))) l 10 wr] => ⟨g = g1, .bool false, [.box [.sl 1 t m y] true false, .arr (.prod .str (.prod (.int .i64) (.prod (.prod (.prod (.int .i64) (.int .i64)) (.prod (.int .i64) (.int .i64))) (.prod (.prod (.int .i64) (.int .i64)) (.prod (.int .i64) (.int .i64)))))) l 10 wr]⟩
  | [.sl 0 s n x, .fn g []], [.arr (.int .i64) w 1 ww] => ⟨g = g2 ∧ s + n ≤ w.length ∧ n ≤ 1048576, .bool ((seg w s n).any fun i => !dyB i), [.arr (.int .i64) w 1 ww]⟩
  | [.nils, .fn g []], [] => ⟨g = g2, .bool false, []⟩
  | _, _ => noSpec
theorem ok_anyZ : SpecOk Try.prog 88 (s_anyZ 89 90) := by
  intro args S h; unfold s_anyZ at h ⊢; (split at h <;> first | exact False.elim h | skip)
  dsimp only at h ⊢
  · have hq := h
    refine funW tabOk (E := [(120, (s_idxZ 89 90))]) ⟨ok_idxZ, trivial⟩ [] (k := 3) (fn := Try.f88) rfl rfl rfl rfl rfl rfl ?_
    (repeat' ((try (conv => whnf)); first | (with_reducible first | refine And.intro ?_ ?_ | refine WX.of ?_) | exact zc | ((with_reducible refine VC.mk ?_); exact zw) | ((with_reducible refine VC.mk ?_); exact hq) | (with_reducible first | refine splitT ?_ | refine splitF ?_) | ((with_reducible refine splitM.mk (fun hsm => ?_) (fun hsm => ?_)) <;> (try exact zx)) | ((with_reducible refine splitB.mk (fun h => ?_) (fun h => ?_)) <;> (try simp only [zs, ne_eq] at h) <;> (try simp (disch := omega) only [w64] at h) <;> (try exact zx)) | (with_reducible intro hz; (try exact absurd hz (Nat.succ_ne_zero _)))))
    exact ⟨by rw [findI_any]⟩
  · have hq := h
    refine funW tabOk (E := [(120, (s_idxZ 89 90))]) ⟨ok_idxZ, trivial⟩ [] (k := 2) (fn := Try.f88) rfl rfl rfl rfl rfl rfl ?_
    (repeat' ((try (conv => whnf)); first | (with_reducible first | refine And.intro ?_ ?_ | refine WX.of ?_) | exact zc | ((with_reducible refine VC.mk ?_); exact zw) | ((with_reducible refine VC.mk ?_); exact hq) | (with_reducible first | refine splitT ?_ | refine splitF ?_) | ((with_reducible refine splitM.mk (fun hsm => ?_) (fun hsm => ?_)) <;> (try exact zx)) | ((with_reducible refine splitB.mk (fun h => ?_) (fun h => ?_)) <;> (try simp only [zs, ne_eq] at h) <;> (try simp (disch := omega) only [w64] at h) <;> (try exact zx)) | (with_reducible intro hz; (try exact absurd hz (Nat.succ_ne_zero _)))))
  · have hq := h
    refine funW tabOk (E := [(120, (s_idxZ 89 90))]) ⟨ok_idxZ, trivial⟩ [] (k := 1) (fn := Try.f88) rfl rfl rfl rfl rfl rfl ?_
    (repeat' ((try (conv => whnf)); first | (with_reducible first | refine And.intro ?_ ?_ | refine WX.of ?_) | exact zc | ((with_reducible refine VC.mk ?_); exact zw) | ((with_reducible refine VC.mk ?_); exact hq) | (with_reducible first | refine splitT ?_ | refine splitF ?_) | ((with_reducible refine splitM.mk (fun hsm => ?_) (fun hsm => ?_)) <;> (try exact zx)) | ((with_reducible refine splitB.mk (fun h => ?_) (fun h => ?_)) <;> (try simp only [zs, ne_eq] at h) <;> (try simp (disch := omega) only [w64] at h) <;> (try exact zx)) | (with_reducible intro hz; (try exact absurd hz (Nat.succ_ne_zero _)))))
    exact ⟨by rw [findI_any]⟩
  · have hq := h
    refine funW tabOk (E := [(120, (s_idxZ 89 90))]) ⟨ok_idxZ, trivial⟩ [] (k := 0) (fn := Try.f88) rfl rfl rfl rfl rfl rfl ?_
    (repeat' ((try (conv => whnf)); first | (with_reducible first | refine And.intro ?_ ?_ | refine WX.of ?_) | exact zc | ((with_reducible refine VC.mk ?_); exact zw) | ((with_reducible refine VC.mk ?_); exact hq) | (with_reducible first | refine splitT ?_ | refine splitF ?_) | ((with_reducible refine splitM.mk (fun hsm => ?_) (fun hsm => ?_)) <;> (try exact zx)) | ((with_reducible refine splitB.mk (fun h => ?_) (fun h => ?_)) <;> (try simp only [zs, ne_eq] at h) <;> (try simp (disch := omega) only [w64] at h) <;> (try exact zx)) | (with_reducible intro hz; (try exact absurd hz (Nat.succ_ne_zero _)))))
/-- The code of a chain, indices and days. -/
def ccC (L : List StT) (ix dy : List Int) : Int := if chB L = true then (if (ix.any fun i => !ixB L i) = true then 2 else if (dy.any fun i => !dyB i) = true then 2 else 0) else 1
def chP (s n : Nat) (l : List StT) : Prop := (s + n ≤ l.length ∧ n ≤ 1048576) ∧ ∀ (j : Nat) (a : StT), l[j]? = some a → a.1.length < 9223372036854775808
def s_chC : Spec := fun args S => match args, S with
  | [.sl 0 s n x, .sl 1 t m y, .sl 2 t' m' y'], [.arr (.prod .str (.prod (.int .i64) (.prod (.prod (.prod (.int .i64) (.int .i64)) (.prod (.int .i64) (.int .i64))) (.prod (.prod (.int .i64) (.int .i64)) (.prod (.int .i64) (.int .i64)))))) l 10 wr, .arr (.int .i64) w 1 ww, .arr (.int .i64) w' 1 ww'] => ⟨chP s n l ∧ (t + m ≤ w.length ∧ m ≤ 1048576) ∧ t' + m' ≤ w'.length ∧ m' ≤ 1048576, .int .i64 (ccC (seg l s n) (seg w t m) (seg w' t' m')), [.arr (.prod .str (.prod (.int .i64) (.prod (.prod (.prod (.int .i64) (.int .i64)) (.prod (.int .i64) (.int .i64))) (.prod (.prod (.int .i64) (.int .i64)) (.prod (.int .i64) (.int .i64)))))) l 10 wr, .arr (.int .i64) w 1 ww, .arr (.int .i64) w' 1 ww']⟩
  | [.sl 0 s n x, .nils, .sl 1 t' m' y'], [.arr (.prod .str (.prod (.int .i64) (.prod (.prod (.prod (.int .i64) (.int .i64)) (.prod (.int .i64) (.int .i64))) (.prod (.prod (.int .i64) (.int .i64)) (.prod (.int .i64) (.int .i64)))))) l 10 wr, .arr (.int .i64) w' 1 ww'] => ⟨chP s n l ∧ t' + m' ≤ w'.length ∧ m' ≤ 1048576, .int .i64 (ccC (seg l s n) [] (seg w' t' m')), [.arr (.prod .str (.prod (.int .i64) (.prod (.prod (.prod (.int .i64) (.int .i64)) (.prod (.int .i64) (.int .i64))) (.prod (.prod (.int .i64) (.int .i64)) (.prod (.int .i64) (.int .i64)))))) l 10 wr, .arr (.int .i64) w' 1 ww']⟩
  | [.sl 0 s n x, .sl 1 t m y, .nils], [.arr (.prod .str (.prod (.int .i64) (.prod (.prod (.prod (.int .i64) (.int .i64)) (.prod (.int .i64) (.int .i64))) (.prod (.prod (.int .i64) (.int .i64)) (.prod (.int .i64) (.int .i64)))))) l 10 wr, .arr (.int .i64) w 1 ww] => ⟨chP s n l ∧ t + m ≤ w.length ∧ m ≤ 1048576, .int .i64 (ccC (seg l s n) (seg w t m) []), [.arr (.prod .str (.prod (.int .i64) (.prod (.prod (.prod (.int .i64) (.int .i64)) (.prod (.int .i64) (.int .i64))) (.prod (.prod (.int .i64) (.int .i64)) (.prod (.int .i64) (.int .i64)))))) l 10 wr, .arr (.int .i64) w 1 ww]⟩
  | _, _ => noSpec
theorem ok_chainCode : SpecOk Try.prog 37 s_chC := by
  intro args S h; unfold s_chC at h ⊢; (split at h <;> first | exact False.elim h | skip)
  dsimp only at h ⊢
  · obtain ⟨h1, h2, h3⟩ := h
    refine funW tabOk (E := [(87, s_l05Ok), (88, (s_anyZ 89 90))]) ⟨ok_ValidChainI, ok_anyZ, trivial⟩ [] (k := 3) (fn := Try.f37) rfl rfl rfl rfl rfl rfl ?_
    (repeat' ((try (conv => whnf)); first | (with_reducible first | refine And.intro ?_ ?_ | refine WX.of ?_) | exact zc | ((with_reducible refine VC.mk ?_); exact zw) | ((with_reducible refine VC.mk ?_); exact h1) | ((with_reducible refine VC.mk ?_); exact ⟨rfl, h2, h1.1⟩) | ((with_reducible refine VC.mk ?_); exact ⟨rfl, h3⟩) | (with_reducible first | refine splitT ?_ | refine splitF ?_) | ((with_reducible refine splitM.mk (fun hsm => ?_) (fun hsm => ?_)) <;> (try exact zx)) | ((with_reducible refine splitB.mk (fun h => ?_) (fun h => ?_)) <;> (try simp only [zs, ne_eq] at h) <;> (try simp (disch := omega) only [w64] at h) <;> (try exact zx)) | (with_reducible intro hz; (try exact absurd hz (Nat.succ_ne_zero _)))))
    all_goals (refine ⟨congrArg (SV.int .i64) ?_⟩; unfold ccC; simp [*])
  · obtain ⟨h1, h3⟩ := h
    refine funW tabOk (E := [(87, s_l05Ok), (88, (s_anyZ 89 90))]) ⟨ok_ValidChainI, ok_anyZ, trivial⟩ [] (k := 2) (fn := Try.f37) rfl rfl rfl rfl rfl rfl ?_
    (repeat' ((try (conv => whnf)); first | (with_reducible first | refine And.intro ?_ ?_ | refine WX.of ?_) | exact zc | ((with_reducible refine VC.mk ?_); exact zw) | ((with_reducible refine VC.mk ?_); exact h1) | ((with_reducible refine VC.mk ?_); exact ⟨rfl, h3⟩) | (with_reducible first | refine splitT ?_ | refine splitF ?_) | ((with_reducible refine splitM.mk (fun hsm => ?_) (fun hsm => ?_)) <;> (try exact zx)) | ((with_reducible refine splitB.mk (fun h => ?_) (fun h => ?_)) <;> (try simp only [zs, ne_eq] at h) <;> (try simp (disch := omega) only [w64] at h) <;> (try exact zx)) | (with_reducible intro hz; (try exact absurd hz (Nat.succ_ne_zero _)))))
    all_goals (refine ⟨congrArg (SV.int .i64) ?_⟩; unfold ccC; simp [*])
  · obtain ⟨h1, h2⟩ := h
    refine funW tabOk (E := [(87, s_l05Ok), (88, (s_anyZ 89 90))]) ⟨ok_ValidChainI, ok_anyZ, trivial⟩ [] (k := 2) (fn := Try.f37) rfl rfl rfl rfl rfl rfl ?_
    (repeat' ((try (conv => whnf)); first | (with_reducible first | refine And.intro ?_ ?_ | refine WX.of ?_) | exact zc | ((with_reducible refine VC.mk ?_); exact zw) | ((with_reducible refine VC.mk ?_); exact h1) | ((with_reducible refine VC.mk ?_); exact ⟨rfl, h2, h1.1⟩) | (with_reducible first | refine splitT ?_ | refine splitF ?_) | ((with_reducible refine splitM.mk (fun hsm => ?_) (fun hsm => ?_)) <;> (try exact zx)) | ((with_reducible refine splitB.mk (fun h => ?_) (fun h => ?_)) <;> (try simp only [zs, ne_eq] at h) <;> (try simp (disch := omega) only [w64] at h) <;> (try exact zx)) | (with_reducible intro hz; (try exact absurd hz (Nat.succ_ne_zero _)))))
    all_goals (refine ⟨congrArg (SV.int .i64) ?_⟩; unfold ccC; simp [*])
def s_l05At : Spec := fun args S => match args, S with
  | [.sl 0 s n x, .int .i64 i, .int .i64 d], [.arr (.prod .str (.prod (.int .i64) (.prod (.prod (.prod (.int .i64) (.int .i64)) (.prod (.int .i64) (.int .i64))) (.prod (.prod (.int .i64) (.int .i64)) (.prod (.int .i64) (.int .i64)))))) l 10 wr] => ⟨chP s n l, .int .i64 (ccC (seg l s n) [i] [d]), [.arr (.prod .str (.prod (.int .i64) (.prod (.prod (.prod (.int .i64) (.int .i64)) (.prod (.int .i64) (.int .i64))) (.prod (.prod (.int .i64) (.int .i64)) (.prod (.int .i64) (.int .i64)))))) l 10 wr]⟩
  | _, _ => noSpec
theorem ok_l05At : SpecOk Try.prog 51 s_l05At := by
  intro args S h; unfold s_l05At at h ⊢; (split at h <;> first | exact False.elim h | skip)
  dsimp only at h ⊢
  rename_i s n x i d l wr
  have hq := h
  have hL := seg_len h.1.1
  have hn := h.1.2
  have e : ixB (seg l s n) i = decide (0 ≤ i ∧ i ≤ (n : Int) - 1) := by unfold ixB; rw [hL]
  refine funW tabOk (E := [(66, s_l05Ok), (102, s_within), (67, s_l05Day)]) ⟨ok_l05Ok, ok_l00In, ok_l05Day, trivial⟩ [] (k := 1) (fn := Try.f51) rfl rfl rfl rfl rfl rfl ?_
  (repeat' ((try (conv => whnf)); first | (with_reducible first | refine And.intro ?_ ?_ | refine WX.of ?_) | exact zc | ((with_reducible refine VC.mk ?_); exact zw) | ((with_reducible refine VC.mk ?_); exact hq) | (with_reducible first | refine splitT ?_ | refine splitF ?_) | ((with_reducible refine splitM.mk (fun hsm => ?_) (fun hsm => ?_)) <;> (try exact zx)) | ((with_reducible refine splitB.mk (fun h => ?_) (fun h => ?_)) <;> (try simp only [zs, ne_eq] at h) <;> (try simp (disch := omega) only [w64] at h) <;> (try exact zx)) | (with_reducible intro hz; (try exact absurd hz (Nat.succ_ne_zero _)))))
  all_goals (refine ⟨congrArg (SV.int .i64) ?_⟩; unfold ccC; simp [*])
end Go.Proofs.Ytnmpgofhdjcpaaa.Eng
set_option linter.unusedVariables false
set_option linter.unusedSimpArgs false
namespace Go.Proofs.Ytnmpgofhdjcpaaa.Eng
open Go Go.RowKit
set_option maxRecDepth 100000
def soO (L : List StT) (i day : Int) : Option SpT := alO L day (pathL L i) ((0, 1), 0, 1)
/-- What comes of a code and of a span. -/
def coC (c : Int) (g : Bool) (o : Option SpT) : Int := if c = 0 then (if g = true then oCS o else 4) else c
def coV (c : Int) (g : Bool) (o : Option SpT) : SpT := if coC c g o = 0 then zsS o else ((0, 0), 0, 0)
def soC (L : List StT) (i day : Int) : Int := coC (ccC L [i] [day]) (gdB (stAt L i) day) (soO L i day)
def soV (L : List StT) (i day : Int) : SpT := coV (ccC L [i] [day]) (gdB (stAt L i) day) (soO L i day)
theorem co_1 {c : Int} {g : Bool} {o : Option SpT} (h : ¬ c = 0) : coC c g o = c ∧ coV c g o = ((0, 0), 0, 0) := by
  have e : coC c g o = c := by unfold coC; rw [if_neg h]
  exact ⟨e, by unfold coV; rw [e, if_neg h]⟩
theorem co_2 {g : Bool} {o : Option SpT} (h : g = false) : coC 0 g o = 4 ∧ coV 0 g o = ((0, 0), 0, 0) := by
  have e : coC 0 g o = 4 := by unfold coC; rw [h]; rfl
  exact ⟨e, by unfold coV; rw [e]; rfl⟩
theorem co_3 {g : Bool} {o : Option SpT} (h : g = true) : coC 0 g o = oCS o ∧ coV 0 g o = zsS o := by
  have e : coC 0 g o = oCS o := by unfold coC; rw [h]; rfl
  refine ⟨e, ?_⟩
  unfold coV; rw [e]
  cases o <;> simp [oCS, zsS]
theorem cc_ok {L : List StT} {ix dy : List Int} (h : ccC L ix dy = 0) : chB L = true ∧ (∀ i ∈ ix, 0 ≤ i ∧ i < L.length) ∧ ∀ d ∈ dy, 0 ≤ d ∧ d ≤ 100000 := by
  unfold ccC at h
  split at h
  · rename_i hc
    split at h
    · simp at h
    · rename_i h1
      split at h
      · simp at h
      · rename_i h2
        simp only [Bool.not_eq_true, List.any_eq_false, Bool.not_eq_true', Bool.not_eq_false] at h1 h2
        exact ⟨hc, fun i hi => ix_ok (h1 i hi), fun d hd => by have := h2 d hd; unfold dyB at this; simpa using this⟩
  · simp at h
def s_spanOnC : Spec := fun args S => match args, S with
  | [.ptr b 0 0, .sl 1 s n x, .int .i64 i, .int .i64 day], [.arr .bool [bad] 0 true, .arr (.prod .str (.prod (.int .i64) (.prod (.prod (.prod (.int .i64) (.int .i64)) (.prod (.int .i64) (.int .i64))) (.prod (.prod (.int .i64) (.int .i64)) (.prod (.int .i64) (.int .i64)))))) l 10 wr] => ⟨b = 0 ∧ (s + n ≤ l.length ∧ chB (seg l s n) = true) ∧ (0 ≤ i ∧ i < n) ∧ (0 ≤ day ∧ day ≤ 100000), .agg [.int .i64 (alT (seg l s n) day (pathL (seg l s n) i) (((0, 1), 0, 1), bad)).1.1.1, .int .i64 (alT (seg l s n) day (pathL (seg l s n) i) (((0, 1), 0, 1), bad)).1.1.2, .int .i64 (alT (seg l s n) day (pathL (seg l s n) i) (((0, 1), 0, 1), bad)).1.2.1, .int .i64 (alT (seg l s n) day (pathL (seg l s n) i) (((0, 1), 0, 1), bad)).1.2.2], [.arr .bool [(alT (seg l s n) day (pathL (seg l s n) i) (((0, 1), 0, 1), bad)).2] 0 true, .arr (.prod .str (.prod (.int .i64) (.prod (.prod (.prod (.int .i64) (.int .i64)) (.prod (.int .i64) (.int .i64))) (.prod (.prod (.int .i64) (.int .i64)) (.prod (.int .i64) (.int .i64)))))) l 10 wr]⟩
  | _, _ => noSpec
theorem ok_spanOnC : SpecOk Try.prog 43 s_spanOnC := by
  intro args S h; unfold s_spanOnC at h ⊢; (split at h <;> first | exact False.elim h | skip)
  dsimp only at h ⊢
  rename_i b s n x i day bad l wr
  obtain ⟨rfl, ⟨h1, hc⟩, hi, hd⟩ := h
  have hL := seg_len h1
  have hp30 := path_30 hc (i := i) (by omega)
  have hsg := seg_all (pathL (seg l s n) i)
  have hW : ∀ j ∈ seg (pathL (seg l s n) i) 0 (pathL (seg l s n) i).length, 0 ≤ j ∧ j < (seg l s n).length := fun j hj => by
    rw [hsg] at hj; have := path_mem hc (i := i) (by omega) j hj; omega
  refine funW tabOk (E := [(39, s_path), (40, s_none), (45, s_alongI)]) ⟨ok_pathI, ok_none, ok_alongI, trivial⟩ [] (k := 2) (fn := Try.f43) rfl rfl rfl rfl rfl rfl ?_
  (repeat' ((try (conv => whnf)); first | (with_reducible first | refine And.intro ?_ ?_ | refine WX.of ?_) | exact zc | ((with_reducible refine VC.mk ?_); exact zw) | ((with_reducible refine VC.mk ?_); exact ⟨h1, hc, hi.2⟩) | ((with_reducible refine VC.mk ?_); exact ⟨rfl, ⟨h1, hc⟩, ⟨by omega, by omega, hW⟩, hd, smS_0⟩) | (with_reducible first | refine splitT ?_ | refine splitF ?_) | ((with_reducible refine splitM.mk (fun hsm => ?_) (fun hsm => ?_)) <;> (try exact zx)) | ((with_reducible refine splitB.mk (fun h => ?_) (fun h => ?_)) <;> (try simp only [zs, ne_eq] at h) <;> (try simp (disch := omega) only [w64] at h) <;> (try exact zx)) | (with_reducible intro hz; (try exact absurd hz (Nat.succ_ne_zero _)))))
  all_goals exact ⟨by rw [hsg]⟩
def s_l05Span : Spec := fun args S => match args, S with
  | [.sl 0 s n x, .int .i64 i, .int .i64 day], [.arr (.prod .str (.prod (.int .i64) (.prod (.prod (.prod (.int .i64) (.int .i64)) (.prod (.int .i64) (.int .i64))) (.prod (.prod (.int .i64) (.int .i64)) (.prod (.int .i64) (.int .i64)))))) l 10 wr] => ⟨(s + n ≤ l.length ∧ chB (seg l s n) = true) ∧ (0 ≤ i ∧ i < n) ∧ (0 ≤ day ∧ day ≤ 100000), .tup [.agg [.int .i64 (coV 0 (gdB (stAt (seg l s n) i) day) (soO (seg l s n) i day)).1.1, .int .i64 (coV 0 (gdB (stAt (seg l s n) i) day) (soO (seg l s n) i day)).1.2, .int .i64 (coV 0 (gdB (stAt (seg l s n) i) day) (soO (seg l s n) i day)).2.1, .int .i64 (coV 0 (gdB (stAt (seg l s n) i) day) (soO (seg l s n) i day)).2.2], .int .i64 (coC 0 (gdB (stAt (seg l s n) i) day) (soO (seg l s n) i day))], [.arr (.prod .str (.prod (.int .i64) (.prod (.prod (.prod (.int .i64) (.int .i64)) (.prod (.int .i64) (.int .i64))) (.prod (.prod (.int .i64) (.int .i64)) (.prod (.int .i64) (.int .i64)))))) l 10 wr]⟩
  | _, _ => noSpec
theorem ok_l05Span : SpecOk Try.prog 52 s_l05Span := by
  intro args S h; unfold s_l05Span at h ⊢; (split at h <;> first | exact False.elim h | skip)
  dsimp only at h ⊢
  rename_i s n x i day l wr
  obtain ⟨⟨h1, hc⟩, hi, hd⟩ := h
  have hL := seg_len h1
  have hp30 := path_30 hc (i := i) (by omega)
  have hsg := seg_all (pathL (seg l s n) i)
  have hW : ∀ j ∈ seg (pathL (seg l s n) i) 0 (pathL (seg l s n) i).length, 0 ≤ j ∧ j < (seg l s n).length := fun j hj => by
    rw [hsg] at hj; have := path_mem hc (i := i) (by omega) j hj; omega
  obtain ⟨a, ha, hst, ho⟩ := ch_z hc (i := i) (by omega)
  have hla := (seg_get ha).1
  have hgo : s + i.toNat < l.length ∧ (0 ≤ ((l[s + i.toNat]?).getD stD).2.2.2.2.1 ∧ ((l[s + i.toNat]?).getD stD).2.2.2.2.1 ≤ 100000) ∧ 0 ≤ ((l[s + i.toNat]?).getD stD).2.2.2.2.2 ∧ ((l[s + i.toNat]?).getD stD).2.2.2.2.2 ≤ 100000 := by
    rw [hla]; exact ⟨(List.getElem?_eq_some_iff.1 hla).1, ho.md, ho.gd⟩
  have hgd : gdB ((l[s + i.toNat]?).getD stD) day = gdB (stAt (seg l s n) i) day := by rw [hla, hst]; rfl
  rw [← hgd]
  refine funW tabOk (E := [(68, s_l05Good), (95, s_path), (97, s_none), (96, s_alongS)]) ⟨ok_l05Good, ok_l05Path, ok_l05Nothing, ok_l05Along, trivial⟩ [] (k := 1) (fn := Try.f52) rfl rfl rfl rfl rfl rfl ?_
  (repeat' ((try (conv => whnf)); first | (with_reducible first | refine And.intro ?_ ?_ | refine WX.of ?_) | exact zc | ((with_reducible refine VC.mk ?_); exact zw) | ((with_reducible refine VC.mk ?_); exact hi) | ((with_reducible refine VC.mk ?_); exact hgo) | ((with_reducible refine VC.mk ?_); exact ⟨h1, hc, hi.2⟩) | ((with_reducible refine VC.mk ?_); exact ⟨⟨h1, hc⟩, ⟨by omega, by omega, hW⟩, hd, smS_0⟩) | (with_reducible first | refine splitT ?_ | refine splitF ?_) | ((with_reducible refine splitM.mk (fun hsm => ?_) (fun hsm => ?_)) <;> (try exact zx)) | ((with_reducible refine splitB.mk (fun h => ?_) (fun h => ?_)) <;> (try simp only [zs, ne_eq] at h) <;> (try simp (disch := omega) only [w64] at h) <;> (try exact zx)) | (with_reducible intro hz; (try exact absurd hz (Nat.succ_ne_zero _)))))
  · exact ⟨by rw [(co_2 h).1, (co_2 h).2]⟩
  · exact ⟨by rw [(co_3 h).1, (co_3 h).2, hsg]; rfl⟩
def s_SpanOn : Spec := fun args S => match args, S with
  | [.sl 0 s n x, .int .i64 i, .int .i64 day], [.arr (.prod .str (.prod (.int .i64) (.prod (.prod (.prod (.int .i64) (.int .i64)) (.prod (.int .i64) (.int .i64))) (.prod (.prod (.int .i64) (.int .i64)) (.prod (.int .i64) (.int .i64)))))) l 10 wr] => ⟨chP s n l, .tup [.agg [.int .i64 (soV (seg l s n) i day).1.1, .int .i64 (soV (seg l s n) i day).1.2, .int .i64 (soV (seg l s n) i day).2.1, .int .i64 (soV (seg l s n) i day).2.2], .int .i64 (soC (seg l s n) i day)], [.arr (.prod .str (.prod (.int .i64) (.prod (.prod (.prod (.int .i64) (.int .i64)) (.prod (.int .i64) (.int .i64))) (.prod (.prod (.int .i64) (.int .i64)) (.prod (.int .i64) (.int .i64)))))) l 10 wr]⟩
  | _, _ => noSpec
theorem ok_SpanOnS : SpecOk Try.prog 11 s_SpanOn := by
  intro args S h; unfold s_SpanOn at h ⊢; (split at h <;> first | exact False.elim h | skip)
  dsimp only at h ⊢
  rename_i s n x i day l wr
  have hq := h
  have hL := seg_len h.1.1
  unfold soV soC
  by_cases hcc : ccC (seg l s n) [i] [day] = 0
  rotate_left 1
  · rw [(co_1 hcc).1, (co_1 hcc).2]
    refine funW tabOk (E := [(51, s_l05At)]) ⟨ok_l05At, trivial⟩ [] (k := 1) (fn := Try.f11) rfl rfl rfl rfl rfl rfl ?_
    (repeat' ((try (conv => whnf)); first | (with_reducible first | refine And.intro ?_ ?_ | refine WX.of ?_) | exact zc | ((with_reducible refine VC.mk ?_); exact zw) | ((with_reducible refine VC.mk ?_); exact hq) | ((with_reducible refine splitT_of ?_ ?_); (focus (simp only [hcc, Bool.not_true, Bool.not_false, decide_true, decide_false]; done))) | ((with_reducible refine splitF_of ?_ ?_); (focus (simp only [hcc, Bool.not_true, Bool.not_false, decide_true, decide_false]; done))) | (with_reducible first | refine splitT ?_ | refine splitF ?_) | ((with_reducible refine splitM.mk (fun hsm => ?_) (fun hsm => ?_)) <;> (try exact zx)) | ((with_reducible refine splitB.mk (fun h => ?_) (fun h => ?_)) <;> (try simp only [zs, ne_eq] at h) <;> (try simp (disch := omega) only [w64] at h) <;> (try exact zx)) | (with_reducible intro hz; (try exact absurd hz (Nat.succ_ne_zero _)))))
  · rw [hcc]
    obtain ⟨hc, h1, h2⟩ := cc_ok hcc
    have hi := ir_n (h1 i (by simp)) hL
    have hd := h2 day (by simp)
    refine funW tabOk (E := [(51, s_l05At), (52, s_l05Span)]) ⟨ok_l05At, ok_l05Span, trivial⟩ [] (k := 1) (fn := Try.f11) rfl rfl rfl rfl rfl rfl ?_
    (repeat' ((try (conv => whnf)); first | (with_reducible first | refine And.intro ?_ ?_ | refine WX.of ?_) | exact zc | ((with_reducible refine VC.mk ?_); exact zw) | ((with_reducible refine VC.mk ?_); exact hq) | ((with_reducible refine VC.mk ?_); exact ⟨⟨hq.1.1, hc⟩, hi, hd⟩) | ((with_reducible refine splitT_of ?_ ?_); (focus (simp only [hcc, Bool.not_true, Bool.not_false, decide_true, decide_false]; done))) | ((with_reducible refine splitF_of ?_ ?_); (focus (simp only [hcc, Bool.not_true, Bool.not_false, decide_true, decide_false]; done))) | (with_reducible first | refine splitT ?_ | refine splitF ?_) | ((with_reducible refine splitM.mk (fun hsm => ?_) (fun hsm => ?_)) <;> (try exact zx)) | ((with_reducible refine splitB.mk (fun h => ?_) (fun h => ?_)) <;> (try simp only [zs, ne_eq] at h) <;> (try simp (disch := omega) only [w64] at h) <;> (try exact zx)) | (with_reducible intro hz; (try exact absurd hz (Nat.succ_ne_zero _)))))
end Go.Proofs.Ytnmpgofhdjcpaaa.Eng
set_option linter.unusedVariables false
set_option linter.unusedSimpArgs false
namespace Go.Proofs.Ytnmpgofhdjcpaaa.Eng
open Go Go.RowKit
set_option maxRecDepth 100000
def cpN : List Int → List Int → Nat
  | x :: a, y :: b => if x = y then cpN a b + 1 else 0
  | _, _ => 0
theorem cp_le : ∀ (a b : List Int), cpN a b ≤ a.length ∧ cpN a b ≤ b.length
  | [], b => by simp [cpN]
  | x :: a, [] => by simp [cpN]
  | x :: a, y :: b => by
    rw [cpN]; split
    · have := cp_le a b; simp; omega
    · simp
theorem cp_self : ∀ (a : List Int), cpN a a = a.length
  | [] => rfl
  | x :: a => by rw [cpN, if_pos rfl, cp_self a]; rfl
theorem cp_step {a b : List Int} {n : Nat} {x : Int} (ha : a[n]? = some x) (hb : b[n]? = some x) : cpN (a.drop n) (b.drop n) = cpN (a.drop (n + 1)) (b.drop (n + 1)) + 1 := by
  rw [drop_at ha, drop_at hb, cpN, if_pos rfl]
theorem cp_stop {a b : List Int} {n : Nat} {x y : Int} (ha : a[n]? = some x) (hb : b[n]? = some y) (h : ¬ x = y) : cpN (a.drop n) (b.drop n) = 0 := by
  rw [drop_at ha, drop_at hb, cpN, if_neg h]
theorem cp_end {a b : List Int} {n : Nat} (h : a.length ≤ n ∨ b.length ≤ n) : cpN (a.drop n) (b.drop n) = 0 := by
  rcases h with h | h
  · rw [drop_nil h]; cases b.drop n <;> rfl
  · rw [drop_nil h]; cases a.drop n <;> rfl
def absZ (n : Int) : Int := (n.natAbs : Int)
def s00 : SpT := ((0, 1), 0, 1)
/-- The span of the difference behind n common ones. -/
def dfN (L : List StT) (day : Int) (a b : List Int) (n : Nat) : Option SpT :=
  (alO L day (a.drop n) s00).bind fun s => (alO L day (b.drop n) s00).bind fun t => (miO s t).bind fun d => if n = 0 then some d else drO d (stAt L ((a[n - 1]?).getD 0)).2.2.2.1 (absZ (nxD L day (a.drop n) - nxD L day (b.drop n)))
def dfO (L : List StT) (i k day : Int) : Option SpT := dfN L day (pathL L i) (pathL L k) (cpN (pathL L i) (pathL L k))
theorem Tol.bind {o : Option SpT} {v : SpT} {b : Bool} {f : SpT → Option SpT} {v' : SpT} {b' : Bool} (h : Tol o v b) (h' : Tol (f v) v' b') : Tol (o.bind f) v' (b || b') := by
  rcases h with ⟨h1, h2⟩ | ⟨h1, h2⟩
  · subst h1; subst h2; exact .inl ⟨rfl, rfl⟩
  · subst h1; subst h2; simpa using h'
theorem mi_tol (s t : SpT) : Tol (miO s t) (miV s t) (!(sbO s.1 t.2).isSome || !(sbO s.2 t.1).isSome) := sp_tol _ _
def drB (s : SpT) (d : FrT) (n : Int) : Bool := !(muO d (n, 1)).isSome || (!(sbO s.1 (tv (muO d (n, 1)))).isSome || !(adO s.2 (tv (muO d (n, 1)))).isSome)
theorem dr_tol (s : SpT) (d : FrT) (n : Int) : Tol (drO s d n) (drV s d n) (drB s d n) := by
  unfold drO drV drB
  rcases Tol.of (muO d (n, 1)) with ⟨h3, h4⟩ | ⟨h3, h4⟩
  · rw [h3, h4]; exact .inl ⟨rfl, rfl⟩
  · rw [h3]
    generalize muO d (n, 1) = o at *
    rw [show (o.bind fun m => wdO s m) = wdO s (tv o) from by rw [h4]; rfl]
    exact sp_tol _ _
def dfA (L : List StT) (day : Int) (a : List Int) (n : Nat) : SpT × Bool := alT L day (a.drop n) (s00, false)
theorem df_tol0 (L : List StT) (day : Int) (a b : List Int) : Tol (dfN L day a b 0) (miV (dfA L day a 0).1 (dfA L day b 0).1) ((dfA L day a 0).2 || ((dfA L day b 0).2 || (!(sbO (dfA L day a 0).1.1 (dfA L day b 0).1.2).isSome || !(sbO (dfA L day a 0).1.2 (dfA L day b 0).1.1).isSome))) := by
  unfold dfN
  refine Tol.bind (al_tol L day _ s00) (Tol.bind (al_tol L day _ s00) ?_)
  rw [show ((miO (alT L day (a.drop 0) (s00, false)).1 (alT L day (b.drop 0) (s00, false)).1).bind fun d => if (0 : Nat) = 0 then some d else drO d (stAt L ((a[0 - 1]?).getD 0)).2.2.2.1 (absZ (nxD L day (a.drop 0) - nxD L day (b.drop 0)))) = miO (alT L day (a.drop 0) (s00, false)).1 (alT L day (b.drop 0) (s00, false)).1 from by simp]
  exact mi_tol _ _
theorem df_tol1 (L : List StT) (day : Int) (a b : List Int) {n : Nat} (hn : ¬ n = 0) : Tol (dfN L day a b n)
    (drV (miV (dfA L day a n).1 (dfA L day b n).1) (stAt L ((a[n - 1]?).getD 0)).2.2.2.1 (absZ (nxD L day (a.drop n) - nxD L day (b.drop n))))
    ((dfA L day a n).2 || ((dfA L day b n).2 || ((!(sbO (dfA L day a n).1.1 (dfA L day b n).1.2).isSome || !(sbO (dfA L day a n).1.2 (dfA L day b n).1.1).isSome) || drB (miV (dfA L day a n).1 (dfA L day b n).1) (stAt L ((a[n - 1]?).getD 0)).2.2.2.1 (absZ (nxD L day (a.drop n) - nxD L day (b.drop n)))))) := by
  unfold dfN
  refine Tol.bind (al_tol L day _ s00) (Tol.bind (al_tol L day _ s00) (Tol.bind (mi_tol _ _) ?_))
  rw [if_neg hn]
  exact dr_tol _ _ _
theorem rO_0 {q : Int} (hq : 1 ≤ q) : rO 0 q = some (0, 1) := by
  have hg : redG 0 q = q := by unfold redG; rw [Int.gcd_zero_left]; omega
  have e := red_pos (p := 0) (q := q) (by omega)
  rw [hg] at e
  have e1 : redP 0 q = 0 := by rw [e.1]; simp
  have e2 : redQ 0 q = 1 := by rw [e.2]; exact Int.ediv_self (by omega)
  unfold rO redOk; rw [e1, e2]; rfl
theorem df_same {L : List StT} (hc : chB L = true) {i : Int} (hi : 0 ≤ i ∧ i < L.length) (day : Int) : dfO L i i day = some s00 := by
  unfold dfO dfN
  rw [cp_self, drop_nil (Nat.le_refl _)]
  have hne : ¬ (pathL L i).length = 0 := by rw [path_step hc hi]; simp
  have hlast : ((pathL L i)[(pathL L i).length - 1]?).getD 0 = i := by rw [path_step hc hi]; simp
  obtain ⟨a, ha, hst, ho⟩ := ch_z hc hi
  have hdq := fOk_q ho.dr
  rw [hlast, hst]
  have e1 : miO s00 s00 = some s00 := by decide
  have e2 : drO s00 a.2.2.2.1 0 = some s00 := by
    unfold drO
    rw [show muO a.2.2.2.1 (0, 1) = some (0, 1) from by unfold muO; dsimp only; rw [Int.mul_zero, Int.mul_one]; exact rO_0 (by omega)]
    decide
  simp only [alO, Option.bind_some, e1, if_neg hne, nxD, Int.sub_self]
  exact e2
end Go.Proofs.Ytnmpgofhdjcpaaa.Eng
set_option linter.unusedVariables false
set_option linter.unusedSimpArgs false
namespace Go.Proofs.Ytnmpgofhdjcpaaa.Eng
open Go Go.RowKit
set_option maxRecDepth 100000
def twI (f : Int × Int) : Int := f.1 * 20 / f.2
theorem twI_tw (x : Int) : twI (tw x) = x := by
  unfold twI
  rw [tw_x, Int.mul_ediv_cancel _ (by have := tw_q x; omega)]
def loI (L : List StT) (i : Int) : Int := twI (stAt L i).2.2.1.1
def hiI (L : List StT) (i : Int) : Int := twI (stAt L i).2.2.1.2
def drI (L : List StT) (i : Int) : Int := twI (stAt L i).2.2.2.1
theorem st_tw {L : List StT} (h : TwCh L) {i : Int} (hi : 0 ≤ i ∧ i < L.length) : (stAt L i).2.2.1 = (tw (loI L i), tw (hiI L i)) ∧ (stAt L i).2.2.2.1 = tw (drI L i) ∧ (-160 ≤ loI L i ∧ loI L i ≤ hiI L i ∧ hiI L i ≤ 280) ∧ 0 ≤ drI L i ∧ drI L i ≤ 60 := by
  obtain ⟨a, ha⟩ := get_some (l := L) (i := i.toNat) (by omega)
  have g := h _ _ ha
  have e := stAt_z (i := i) ha
  obtain ⟨lo, hi', hv, ⟨v1, v2⟩, v3⟩ := g.vl
  obtain ⟨d, hd, d1, d2⟩ := g.dr
  unfold loI hiI drI
  rw [e, hv, hd]
  simp only [twI_tw]
  exact ⟨trivial, trivial, ⟨v1, v2, v3⟩, d1, d2⟩
/-- Spans in twentieths. -/
abbrev ISp : Type := Int × Int
def alI (L : List StT) (day : Int) : List Int → ISp → ISp
  | [], z => z
  | i :: W, z => alI L day W (z.1 + loI L i - drI L i * (nxD L day W - stMd (stAt L i)), z.2 + hiI L i + drI L i * (nxD L day W - stMd (stAt L i)))
def okW (L : List StT) (day : Int) : List Int → Prop
  | [] => True
  | j :: W => ((0 ≤ j ∧ j < (L.length : Int)) ∧ 0 ≤ nxD L day W - stMd (stAt L j) ∧ nxD L day W - stMd (stAt L j) ≤ 100000) ∧ okW L day W
def twS (z : ISp) : SpT := (tw z.1, tw z.2)
theorem mul_b {d e : Int} (h1 : 0 ≤ d ∧ d ≤ 60) (h2 : 0 ≤ e ∧ e ≤ 100000) : 0 ≤ d * e ∧ d * e ≤ 6000000 := by
  have h3 := Int.mul_nonneg h1.1 h2.1
  have h4 : d * e ≤ 60 * e := Int.mul_le_mul_of_nonneg_right h1.2 h2.1
  omega
theorem al_tw {L : List StT} (h : TwCh L) {day : Int} : ∀ (W : List Int) (z : ISp) (B : Int), okW L day W → (-B ≤ z.1 ∧ z.1 ≤ B) → (-B ≤ z.2 ∧ z.2 ≤ B) → 0 ≤ B → B + 6001000 * W.length ≤ 500000000 →
    alO L day W (twS z) = some (twS (alI L day W z)) ∧ (-(B + 6001000 * W.length) ≤ (alI L day W z).1 ∧ (alI L day W z).1 ≤ B + 6001000 * W.length) ∧ (-(B + 6001000 * W.length) ≤ (alI L day W z).2 ∧ (alI L day W z).2 ≤ B + 6001000 * W.length)
  | [], z, B, _, h1, h2, _, _ => by
    simp only [alO, alI, List.length_nil]
    exact ⟨trivial, by omega, by omega⟩
  | i :: W, z, B, hw, h1, h2, hB, hb => by
    obtain ⟨⟨hi, he⟩, hw⟩ := hw
    obtain ⟨s1, s2, s3, s4⟩ := st_tw h hi
    simp only [List.length_cons] at hb ⊢
    generalize hE : nxD L day W - stMd (stAt L i) = e at *
    have hm := mul_b (d := drI L i) s4 he
    have g := al_tw h W (z.1 + loI L i - drI L i * e, z.2 + hiI L i + drI L i * e) (B + 6001000) hw (by dsimp only; omega) (by dsimp only; omega) (by omega) (by omega)
    have e1 : alO1 (twS z) (stAt L i) (nxD L day W) = some (twS (z.1 + loI L i - drI L i * e, z.2 + hiI L i + drI L i * e)) := by
      unfold alO1 plO twS
      rw [s1]
      dsimp only
      rw [tw_add (by omega), tw_add (by omega)]
      simp only [spO, Option.bind_some]
      unfold drO
      rw [s2, show nxD L day W - (stAt L i).2.2.2.2.1 = e from hE, tw_mul (by omega)]
      simp only [Option.bind_some]
      unfold wdO
      dsimp only
      rw [tw_sub (by omega), tw_add (by omega)]
      rfl
    simp only [alO, alI]
    rw [e1, hE]
    simp only [Option.bind_some]
    refine ⟨g.1, ?_, ?_⟩
    · have := g.2.1; omega
    · have := g.2.2; omega
theorem alI_add (L : List StT) (day : Int) : ∀ (W : List Int) (z : ISp), alI L day W z = (z.1 + (alI L day W (0, 0)).1, z.2 + (alI L day W (0, 0)).2)
  | [], z => by simp [alI]
  | i :: W, z => by
    simp only [alI]
    rw [alI_add L day W (z.1 + _ - _, _), alI_add L day W (0 + _ - _, _)]
    dsimp only
    exact Prod.ext (by dsimp only; omega) (by dsimp only; omega)
theorem alI_le {L : List StT} (h : TwCh L) {day : Int} : ∀ (W : List Int) (z : ISp), okW L day W → z.1 ≤ z.2 → (alI L day W z).1 ≤ (alI L day W z).2
  | [], z, _, hz => hz
  | i :: W, z, hw, hz => by
    obtain ⟨⟨hi, he⟩, hw⟩ := hw
    obtain ⟨s1, s2, s3, s4⟩ := st_tw h hi
    have hm := mul_b (d := drI L i) s4 he
    exact alI_le h W _ hw (by dsimp only; omega)
theorem nxD_app (L : List StT) (day : Int) : ∀ (A B : List Int), nxD L day (A ++ B) = nxD L (nxD L day B) A
  | [], B => rfl
  | a :: A, B => rfl
theorem alI_app (L : List StT) (day : Int) : ∀ (A B : List Int) (z : ISp), alI L day (A ++ B) z = alI L day B (alI L (nxD L day B) A z)
  | [], B, z => rfl
  | a :: A, B, z => by
    simp only [List.cons_append, alI]
    rw [alI_app L day A B, nxD_app]
theorem okW_app {L : List StT} {day : Int} : ∀ {A B : List Int}, okW L day (A ++ B) ↔ okW L (nxD L day B) A ∧ okW L day B
  | [], B => by simp [okW]
  | a :: A, B => by
    simp only [List.cons_append, okW]
    rw [okW_app, nxD_app]
    exact and_assoc.symm
theorem okW_drop {L : List StT} {day : Int} {W : List Int} (h : okW L day W) (n : Nat) : okW L day (W.drop n) := by
  rw [← List.take_append_drop n W] at h
  exact (okW_app.1 h).2
theorem stMd_eq (a : StT) : stMd a = a.2.2.2.2.1 := rfl
theorem okW_path {L : List StT} (hC : chB L = true) (hT : TwCh L) : ∀ (n : Nat) {i day : Int}, i < n → i < L.length → (0 ≤ i → gdB (stAt L i) day = true) → okW L day (pathL L i)
  | 0, i, day, h1, _, _ => by rw [path_neg (by omega)]; trivial
  | n + 1, i, day, h1, h2, hg => by
    by_cases h0 : 0 ≤ i
    · rw [path_step hC ⟨h0, h2⟩, okW_app]
      obtain ⟨a, ha⟩ := get_some (l := L) (i := i.toNat) (by omega)
      have e := stAt_z (i := i) ha
      have g := hT _ _ ha
      have hf := g.fr
      have hgd := hg h0
      unfold gdB at hgd
      rw [decide_eq_true_eq] at hgd
      rw [e] at hgd
      constructor
      · refine okW_path hC hT n (by rw [e]; omega) (by rw [e]; omega) fun hp => ?_
        rw [e] at hp
        have := g.go hp
        unfold gdB
        rw [decide_eq_true_eq, e]
        show _ ≤ stMd (stAt L i) ∧ stMd (stAt L i) ≤ _
        rw [e]
        exact this
      · refine ⟨⟨⟨h0, h2⟩, ?_⟩, trivial⟩
        rw [stMd_eq, e]
        show 0 ≤ day - a.2.2.2.2.1 ∧ day - a.2.2.2.2.1 ≤ 100000
        have := g.gd
        omega
    · rw [path_neg (by omega)]; trivial
theorem path_8 {L : List StT} (hC : chB L = true) (hl : L.length ≤ 8) {i : Int} (h2 : i < L.length) : (pathL L i).length ≤ 8 := by
  rcases path_len hC (i.toNat + 1) (i := i) (by omega) h2 with h | h
  · omega
  · rw [path_neg h]; simp
/-- The span of a standard on a day on which it is good. -/
def spI (L : List StT) (i day : Int) : ISp := alI L day (pathL L i) (0, 0)
theorem tw_00 : (((0, 1), 0, 1) : SpT) = twS (0, 0) := by unfold twS; rw [tw_0]
theorem so_tw {L : List StT} (hC : chB L = true) (hT : TwCh L) (hl : L.length ≤ 8) {i day : Int} (hi : 0 ≤ i ∧ i < L.length) (hg : gdB (stAt L i) day = true) :
    soO L i day = some (twS (spI L i day)) ∧ (-60000000 ≤ (spI L i day).1 ∧ (spI L i day).1 ≤ (spI L i day).2) ∧ (spI L i day).2 ≤ 60000000 := by
  have hw := okW_path hC hT (i.toNat + 1) (i := i) (day := day) (by omega) hi.2 fun _ => hg
  have hp := path_8 hC hl hi.2
  have g := al_tw hT (pathL L i) (0, 0) 0 hw (by decide) (by decide) (by decide) (by omega)
  have hle := alI_le hT (pathL L i) (0, 0) hw (by decide)
  unfold soO spI
  rw [tw_00]
  exact ⟨g.1, ⟨by have := g.2.1; omega, hle⟩, by have := g.2.2; omega⟩
end Go.Proofs.Ytnmpgofhdjcpaaa.Eng
set_option linter.unusedVariables false
set_option linter.unusedSimpArgs false
namespace Go.Proofs.Ytnmpgofhdjcpaaa.Eng
open Go Go.RowKit
set_option maxRecDepth 100000
def s_bhd : Spec := fun args S => match args, S with
  | [.sl 0 t m y, .ptr 1 0 0, .ptr 2 0 0, .ptr 3 0 0, .ptr 4 0 0], [.arr (.int .i64) w 1 ww, .arr (.int .i64) [c] 0 true, .arr (.int .i64) [day] 0 true, .box [.ptr 5 0 0] true false, .box [.sl 6 s n x] true false, .arr .bool [bad] 0 true, .arr (.prod .str (.prod (.int .i64) (.prod (.prod (.prod (.int .i64) (.int .i64)) (.prod (.int .i64) (.int .i64))) (.prod (.prod (.int .i64) (.int .i64)) (.prod (.int .i64) (.int .i64)))))) l 10 wr] => ⟨(s + n ≤ l.length ∧ chB (seg l s n) = true) ∧ (t + m ≤ w.length ∧ m ≤ 40 ∧ ∀ j ∈ seg w t m, 0 ≤ j ∧ j < (seg l s n).length) ∧ (0 ≤ day ∧ day ≤ 100000) ∧ 0 ≤ c ∧ c ≤ m, .tup [.agg [.int .i64 (alT (seg l s n) day ((seg w t m).drop c.toNat) (s00, bad)).1.1.1, .int .i64 (alT (seg l s n) day ((seg w t m).drop c.toNat) (s00, bad)).1.1.2, .int .i64 (alT (seg l s n) day ((seg w t m).drop c.toNat) (s00, bad)).1.2.1, .int .i64 (alT (seg l s n) day ((seg w t m).drop c.toNat) (s00, bad)).1.2.2], .int .i64 (nxD (seg l s n) day ((seg w t m).drop c.toNat))], [.arr (.int .i64) w 1 ww, .arr (.int .i64) [c] 0 true, .arr (.int .i64) [day] 0 true, .box [.ptr 5 0 0] true false, .box [.sl 6 s n x] true false, .arr .bool [(alT (seg l s n) day ((seg w t m).drop c.toNat) (s00, bad)).2] 0 true, .arr (.prod .str (.prod (.int .i64) (.prod (.prod (.prod (.int .i64) (.int .i64)) (.prod (.int .i64) (.int .i64))) (.prod (.prod (.int .i64) (.int .i64)) (.prod (.int .i64) (.int .i64)))))) l 10 wr]⟩
  | _, _ => noSpec
theorem seg_drop {α : Type} {w : List α} {t m c : Nat} (hc : c ≤ m) : seg w (t + c) (m - c) = (seg w t m).drop c := by
  unfold seg; rw [List.drop_take, List.drop_drop]
theorem cbd_ok {c : Int} {m : Nat} (h5 : 0 ≤ c) (h6 : c ≤ m) : c.toNat ≤ m ∧ (¬ (m : Int) = c → c.toNat < m ∧ (0 ≤ c ∧ c < m)) ∧ (0 ≤ c ∧ c ≤ m) := by omega
theorem ok_bhd : SpecOk Try.prog 44 s_bhd := by
  intro args S h; unfold s_bhd at h ⊢; (split at h <;> first | exact False.elim h | skip)
  dsimp only at h ⊢
  rename_i t m y w ww c day s n x bad l wr
  obtain ⟨⟨h1, hc⟩, ⟨h3, h4, hW⟩, hd, h5, h6⟩ := h
  have hL := seg_len h1
  have hM := seg_len h3
  have hcb := cbd_ok h5 h6
  have hsd := seg_drop (w := w) (t := t) (m := m) (c := c.toNat) hcb.1
  have hWd : ∀ j ∈ seg w (t + c.toNat) (m - c.toNat), 0 ≤ j ∧ j < (seg l s n).length := fun j hj => hW j (by rw [hsd] at hj; exact List.mem_of_mem_drop hj)
  by_cases hcm : (m : Int) = c
  · have e : (seg w t m).drop c.toNat = [] := drop_nil (by omega)
    rw [e]
    refine funW tabOk (E := [(40, s_none)]) ⟨ok_none, trivial⟩ [(2, [(1, 0), (1, 2)]), (3, [(0, 1), (1, 1), (3, 1), (4, 1), (5, 1), (8, 0), (8, 1), (8, 3), (10, 0), (10, 1), (10, 3), (12, 0), (12, 1), (12, 3), (15, 0), (15, 1), (15, 3)])] (k := 7) (fn := Try.f44) rfl rfl rfl rfl rfl rfl ?_
    (repeat' ((try (conv => whnf)); first | (with_reducible first | refine And.intro ?_ ?_ | refine WX.of ?_) | exact zc | ((with_reducible refine VC.mk ?_); exact zw) | (with_reducible first | refine splitT ?_ | refine splitF ?_) | ((with_reducible refine splitM.mk (fun hsm => ?_) (fun hsm => ?_)) <;> (try exact zx)) | ((with_reducible refine splitB.mk (fun h => ?_) (fun h => ?_)) <;> (try simp only [zs, ne_eq] at h) <;> (try simp (disch := omega) only [w64] at h) <;> (try exact zx)) | (with_reducible intro hz; (try exact absurd hz (Nat.succ_ne_zero _)))))
  · have hcb2 := hcb.2.1 hcm
    obtain ⟨i, hi⟩ := get_some (l := seg w t m) (i := c.toNat) (by rw [hM]; exact hcb2.1)
    have hir := hW i (List.mem_of_getElem? hi)
    have hir' := ir_n hir hL
    obtain ⟨⟨nm, fr, ⟨⟨p, q⟩, p', q'⟩, ⟨dp, dq⟩, md, gd⟩, ha, hst, ho⟩ := ch_z hc hir
    have e : nxD (seg l s n) day ((seg w t m).drop c.toNat) = md := by rw [drop_at hi]; show stMd _ = md; rw [hst]; rfl
    rw [e, ← hsd]
    refine funW tabOk (E := [(40, s_none), (45, s_alongI)]) ⟨ok_none, ok_alongI, trivial⟩ [(2, [(1, 0), (1, 2)]), (3, [(0, 1), (1, 1), (3, 1), (4, 1), (5, 1), (8, 0), (8, 1), (8, 3), (10, 0), (10, 1), (10, 3), (12, 0), (12, 1), (12, 3), (15, 0), (15, 1), (15, 3)])] (k := 7) (fn := Try.f44) rfl rfl rfl rfl rfl rfl ?_
    (repeat' ((try (conv => whnf)); first | (with_reducible first | refine And.intro ?_ ?_ | refine WX.of ?_) | exact zc | ((with_reducible refine VC.mk ?_); exact zw) | with_reducible refine atL_p (seg_get hi).1 ?_ | with_reducible refine atL_p (seg_get ha).1 ?_ | ((with_reducible refine VC.mk ?_); exact hir') | ((with_reducible refine VC.mk ?_); exact hcb.2.2) | ((with_reducible refine VC.mk ?_); exact hcb2.2) | ((with_reducible refine VC.mk ?_); exact ⟨rfl, ⟨h1, hc⟩, ⟨by omega, by omega, hWd⟩, hd, smS_0⟩) | (with_reducible first | refine splitT ?_ | refine splitF ?_) | ((with_reducible refine splitM.mk (fun hsm => ?_) (fun hsm => ?_)) <;> (try exact zx)) | ((with_reducible refine splitB.mk (fun h => ?_) (fun h => ?_)) <;> (try simp only [zs, ne_eq] at h) <;> (try simp (disch := omega) only [w64] at h) <;> (try exact zx)) | (with_reducible intro hz; (try exact absurd hz (Nat.succ_ne_zero _)))))
def dcC (L : List StT) (i k day : Int) : Int := coC (ccC L [i, k] [day]) (gdB (stAt L i) day && gdB (stAt L k) day) (dfO L i k day)
def dcV (L : List StT) (i k day : Int) : SpT := coV (ccC L [i, k] [day]) (gdB (stAt L i) day && gdB (stAt L k) day) (dfO L i k day)
def s_diff : Spec := fun args S => match args, S with
  | [.sl 0 s n x, .int .i64 i, .int .i64 k, .int .i64 day], [.arr (.prod .str (.prod (.int .i64) (.prod (.prod (.prod (.int .i64) (.int .i64)) (.prod (.int .i64) (.int .i64))) (.prod (.prod (.int .i64) (.int .i64)) (.prod (.int .i64) (.int .i64)))))) l 10 wr] => ⟨chP s n l, .tup [.agg [.int .i64 (dcV (seg l s n) i k day).1.1, .int .i64 (dcV (seg l s n) i k day).1.2, .int .i64 (dcV (seg l s n) i k day).2.1, .int .i64 (dcV (seg l s n) i k day).2.2], .int .i64 (dcC (seg l s n) i k day)], [.arr (.prod .str (.prod (.int .i64) (.prod (.prod (.prod (.int .i64) (.int .i64)) (.prod (.int .i64) (.int .i64))) (.prod (.prod (.int .i64) (.int .i64)) (.prod (.int .i64) (.int .i64)))))) l 10 wr]⟩
  | _, _ => noSpec
theorem prE {α β : Type} (p : α × β) : (p.1, p.2) = p := rfl
theorem mx_ok {a b : Int} (ha : 0 ≤ a ∧ a ≤ 100000) (hb : 0 ≤ b ∧ b ≤ 100000) : IntKind.i64.wrap (a - b) = a - b ∧ IntKind.i64.wrap (b - a) = b - a ∧ (if b - a > a - b then b - a else a - b) = absZ (a - b) ∧ smF (absZ (a - b)) 1 ∧ -1000000000 ≤ absZ (a - b) ∧ absZ (a - b) ≤ 1000000000 := by
  unfold absZ
  refine ⟨w64 (by omega), w64 (by omega), by split <;> omega, smF_1 (by omega), by omega, by omega⟩
set_option maxHeartbeats 3200000 in
theorem ok_DifferenceOnI : SpecOk Try.prog 9 s_diff := by
  intro args S h; unfold s_diff at h ⊢; (split at h <;> first | exact False.elim h | skip)
  dsimp only at h ⊢
  rename_i s n x i k day l wr
  have hq := h
  have hL := seg_len h.1.1
  unfold dcV dcC
  by_cases hcc : ccC (seg l s n) [i, k] [day] = 0
  rotate_left 1
  · rw [(co_1 hcc).1, (co_1 hcc).2]
    have hcc : ¬ ccC (seg l s n) (seg [i, k] 0 2) (seg [day] 0 1) = 0 := hcc
    refine funW tabOk (E := [(37, s_chC)]) ⟨ok_chainCode, trivial⟩ [(6, [(1, 1), (1, 2), (5, 0), (8, 0), (8, 1), (9, 0), (9, 1)]), (12, [(0, 1), (0, 2), (0, 3), (1, 1), (1, 2), (7, 0), (8, 0), (10, 0)]), (17, [(0, 1), (0, 2), (0, 3), (0, 4), (1, 1), (1, 2), (1, 3), (6, 0), (6, 2), (7, 0), (7, 2), (9, 0), (9, 2), (12, 0), (12, 2), (15, 0), (15, 2)])] (k := 1) (fn := Try.f9) rfl rfl rfl rfl rfl rfl ?_
    (repeat' ((try (conv => whnf)); first | (with_reducible first | refine And.intro ?_ ?_ | refine WX.of ?_) | exact zc | ((with_reducible refine VC.mk ?_); exact zw) | ((with_reducible refine VC.mk ?_); exact ⟨hq, ⟨Nat.le_refl 2, by omega⟩, Nat.le_refl 1, by omega⟩) | ((with_reducible refine splitT_of ?_ ?_); (focus (simp only [hcc, Bool.not_true, Bool.not_false, decide_true, decide_false]; done))) | ((with_reducible refine splitF_of ?_ ?_); (focus (simp only [hcc, Bool.not_true, Bool.not_false, decide_true, decide_false]; done))) | (with_reducible first | refine splitT ?_ | refine splitF ?_) | ((with_reducible refine splitM.mk (fun hsm => ?_) (fun hsm => ?_)) <;> (try exact zx)) | ((with_reducible refine splitB.mk (fun h => ?_) (fun h => ?_)) <;> (try simp only [zs, ne_eq] at h) <;> (try simp (disch := omega) only [w64] at h) <;> (try exact zx)) | (with_reducible intro hz; (try exact absurd hz (Nat.succ_ne_zero _)))))
  rw [hcc]
  obtain ⟨hc, h1, h2⟩ := cc_ok hcc
  have hi0 := h1 i (by simp)
  have hk0 := h1 k (by simp)
  have hi := ir_n hi0 hL
  have hk := ir_n hk0 hL
  have hd := h2 day (by simp)
  have hcc : ccC (seg l s n) (seg [i, k] 0 2) (seg [day] 0 1) = 0 := hcc
  obtain ⟨⟨nm, fr, ⟨⟨p, q⟩, p', q'⟩, ⟨dp, dq⟩, md, gd⟩, ha, hst, ho⟩ := ch_z hc hi0
  have hgb : (0 ≤ md ∧ md ≤ 100000) ∧ 0 ≤ gd ∧ gd ≤ 100000 := ⟨ho.md, ho.gd⟩
  obtain ⟨⟨nm0, fr0, ⟨⟨p0, q0⟩, p0', q0'⟩, ⟨dp0, dq0⟩, md0, gd0⟩, hb, hst0, ho0⟩ := ch_z hc hk0
  have hgb0 : (0 ≤ md0 ∧ md0 ≤ 100000) ∧ 0 ≤ gd0 ∧ gd0 ≤ 100000 := ⟨ho0.md, ho0.gd⟩
  rw [hst, hst0]
  cases hg : (gdB (nm, fr, ((p, q), p', q'), (dp, dq), md, gd) day && gdB (nm0, fr0, ((p0, q0), p0', q0'), (dp0, dq0), md0, gd0) day) with
  | false =>
    rw [(co_2 rfl).1, (co_2 rfl).2]
    refine funW tabOk (E := [(37, s_chC), (38, s_good)]) ⟨ok_chainCode, ok_good, trivial⟩ [(6, [(1, 1), (1, 2), (5, 0), (8, 0), (8, 1), (9, 0), (9, 1)]), (12, [(0, 1), (0, 2), (0, 3), (1, 1), (1, 2), (7, 0), (8, 0), (10, 0)]), (17, [(0, 1), (0, 2), (0, 3), (0, 4), (1, 1), (1, 2), (1, 3), (6, 0), (6, 2), (7, 0), (7, 2), (9, 0), (9, 2), (12, 0), (12, 2), (15, 0), (15, 2)])] (k := 1) (fn := Try.f9) rfl rfl rfl rfl rfl rfl ?_
    (repeat' ((try (conv => whnf)); first | (with_reducible first | refine And.intro ?_ ?_ | refine WX.of ?_) | exact zc | ((with_reducible refine VC.mk ?_); exact zw) | with_reducible refine atL_p (seg_get ha).1 ?_ | with_reducible refine atL_p (seg_get hb).1 ?_ | ((with_reducible refine VC.mk ?_); exact ⟨hq, ⟨Nat.le_refl 2, by omega⟩, Nat.le_refl 1, by omega⟩) | ((with_reducible refine VC.mk ?_); exact hi) | ((with_reducible refine VC.mk ?_); exact hk) | ((with_reducible refine VC.mk ?_); exact hgb) | ((with_reducible refine VC.mk ?_); exact hgb0) | ((with_reducible refine splitT_of ?_ ?_); (focus (simp only [hcc, Bool.not_true, Bool.not_false, decide_true, decide_false]; done))) | ((with_reducible refine splitF_of ?_ ?_); (focus (simp only [hcc, Bool.not_true, Bool.not_false, decide_true, decide_false]; done))) | (with_reducible first | refine splitT ?_ | refine splitF ?_) | ((with_reducible refine splitM.mk (fun hsm => ?_) (fun hsm => ?_)) <;> (try exact zx)) | ((with_reducible refine splitB.mk (fun h => ?_) (fun h => ?_)) <;> (try simp only [zs, ne_eq] at h) <;> (try simp (disch := omega) only [w64] at h) <;> (try exact zx)) | (with_reducible intro hz; (try exact absurd hz (Nat.succ_ne_zero _)))))
    rename_i hx
    rw [hx, h] at hg
    simp at hg
  | true =>
    rw [(co_3 rfl).1, (co_3 rfl).2]
    rw [Bool.and_eq_true] at hg
    have hpa := path_30 hc hi0.2
    have hpb := path_30 hc hk0.2
    have hsA := seg_all (pathL (seg l s n) i)
    have hsB := seg_all (pathL (seg l s n) k)
    have hcl := cp_le (pathL (seg l s n) i) (pathL (seg l s n) k)
    have hWA : ∀ j ∈ seg (pathL (seg l s n) i) 0 (pathL (seg l s n) i).length, 0 ≤ j ∧ j < (seg l s n).length := fun j hj => by
      rw [hsA] at hj; have := path_mem hc hi0.2 j hj; omega
    have hWB : ∀ j ∈ seg (pathL (seg l s n) k) 0 (pathL (seg l s n) k).length, 0 ≤ j ∧ j < (seg l s n).length := fun j hj => by
      rw [hsB] at hj; have := path_mem hc hk0.2 j hj; omega
    refine funW tabOk (E := [(37, s_chC), (38, s_good), (39, s_path), (40, s_none), (43, s_spanOnC), (42, s_miOI), (41, s_spanC), (44, s_bhd), (48, s_num), (47, s_mulO), (46, s_wdI)]) ⟨ok_chainCode, ok_good, ok_pathI, ok_none, ok_spanOnC, ok_miOI, ok_spanC, ok_bhd, ok_num, ok_mulO, ok_wdI, trivial⟩ [(6, [(1, 1), (1, 2), (5, 0), (8, 0), (8, 1), (9, 0), (9, 1)]), (12, [(0, 1), (0, 2), (0, 3), (1, 1), (1, 2), (7, 0), (8, 0), (10, 0)]), (17, [(0, 1), (0, 2), (0, 3), (0, 4), (1, 1), (1, 2), (1, 3), (6, 0), (6, 2), (7, 0), (7, 2), (9, 0), (9, 2), (12, 0), (12, 2), (15, 0), (15, 2)])] (k := 1) (fn := Try.f9) rfl rfl rfl rfl rfl rfl ?_
    (repeat' ((try (conv => whnf)); first | (with_reducible first | refine And.intro ?_ ?_ | refine WX.of ?_) | exact zc | ((with_reducible refine VC.mk ?_); exact zw) | with_reducible refine atL_p (seg_get ha).1 ?_ | with_reducible refine atL_p (seg_get hb).1 ?_ | ((with_reducible refine VC.mk ?_); exact ⟨hq, ⟨Nat.le_refl 2, by omega⟩, Nat.le_refl 1, by omega⟩) | ((with_reducible refine VC.mk ?_); exact hi) | ((with_reducible refine VC.mk ?_); exact hk) | ((with_reducible refine VC.mk ?_); exact hgb) | ((with_reducible refine VC.mk ?_); exact hgb0) | ((with_reducible refine VC.mk ?_); exact ⟨hq.1.1, hc, hi.2⟩) | ((with_reducible refine VC.mk ?_); exact ⟨hq.1.1, hc, hk.2⟩) | ((with_reducible refine splitT_of ?_ ?_); (focus (simp only [hcc, hg.1, hg.2, Bool.not_true, Bool.not_false, decide_true, decide_false]; done))) | ((with_reducible refine splitF_of ?_ ?_); (focus (simp only [hcc, hg.1, hg.2, Bool.not_true, Bool.not_false, decide_true, decide_false]; done))) | (with_reducible first | refine splitT ?_ | refine splitF ?_) | ((with_reducible refine splitM.mk (fun hsm => ?_) (fun hsm => ?_)) <;> (try exact zx)) | ((with_reducible refine splitB.mk (fun h => ?_) (fun h => ?_)) <;> (try simp only [zs, ne_eq] at h) <;> (try simp (disch := omega) only [w64] at h) <;> (try exact zx)) | (with_reducible intro hz; (try exact absurd hz (Nat.succ_ne_zero _)))))
    refine loopW tabOk (E := [(37, s_chC), (38, s_good), (39, s_path), (40, s_none), (43, s_spanOnC), (42, s_miOI), (41, s_spanC), (44, s_bhd), (48, s_num), (47, s_mulO), (46, s_wdI)]) ⟨ok_chainCode, ok_good, ok_pathI, ok_none, ok_spanOnC, ok_miOI, ok_spanC, ok_bhd, ok_num, ok_mulO, ok_wdI, trivial⟩ [(6, [(1, 1), (1, 2), (5, 0), (8, 0), (8, 1), (9, 0), (9, 1)]), (12, [(0, 1), (0, 2), (0, 3), (1, 1), (1, 2), (7, 0), (8, 0), (10, 0)]), (17, [(0, 1), (0, 2), (0, 3), (0, 4), (1, 1), (1, 2), (1, 3), (6, 0), (6, 2), (7, 0), (7, 2), (9, 0), (9, 2), (12, 0), (12, 2), (15, 0), (15, 2)])] (σ := Nat) (fun z => [(0, .sl 0 s n x), (1, .int .i64 i), (2, .int .i64 k), (4, .ptr 1 0 0), (7, .ptr 2 0 0), (8, .ptr 3 0 0), (11, .ptr 7 0 0), (12, .sl 9 0 (pathL (seg l s n) i).length 0), (13, .sl 10 0 (pathL (seg l s n) k).length 0), (14, .ptr 8 0 0)]) (fun z => [.arr (.prod .str (.prod (.int .i64) (.prod (.prod (.prod (.int .i64) (.int .i64)) (.prod (.int .i64) (.int .i64))) (.prod (.prod (.int .i64) (.int .i64)) (.prod (.int .i64) (.int .i64)))))) l 10 wr, .box [.sl 0 s n x] true false, .arr (.int .i64) [day] 0 true, .arr (.prod (.prod (.int .i64) (.int .i64)) (.prod (.int .i64) (.int .i64))) [((0, 0), 0, 0)] 0 true, .gone, .gone, .arr .bool [false] 0 true, .box [.ptr 6 0 0] true false, .arr (.int .i64) [(z : Int)] 0 true, .arr (.int .i64) (pathL (seg l s n) i) 1 true, .arr (.int .i64) (pathL (seg l s n) k) 1 true]) (fun z => (pathL (seg l s n) i).length - z) (fun z => z ≤ (pathL (seg l s n) i).length ∧ z ≤ (pathL (seg l s n) k).length ∧ cpN (pathL (seg l s n) i) (pathL (seg l s n) k) = z + cpN ((pathL (seg l s n) i).drop z) ((pathL (seg l s n) k).drop z)) 0 ⟨Nat.zero_le _, Nat.zero_le _, by simp⟩ ?_ ?_
    · (repeat' ((try (conv => whnf)); first | (with_reducible first | refine And.intro ?_ ?_ | refine WX.of ?_) | exact zc | ((with_reducible refine VC.mk ?_); exact zw) | (with_reducible first | refine splitT ?_ | refine splitF ?_) | ((with_reducible refine splitM.mk (fun hsm => ?_) (fun hsm => ?_)) <;> (try exact zx)) | ((with_reducible refine splitB.mk (fun h => ?_) (fun h => ?_)) <;> (try simp only [zs, ne_eq] at h) <;> (try simp (disch := omega) only [w64] at h) <;> (try exact zx)) | (with_reducible intro hz; (try exact absurd hz (Nat.succ_ne_zero _)))))
    · intro z ⟨hz1, hz2, hz⟩
      by_cases hstop : z < (pathL (seg l s n) i).length ∧ z < (pathL (seg l s n) k).length
      · obtain ⟨u, hu⟩ := get_some (l := (pathL (seg l s n) i)) (i := z) hstop.1
        obtain ⟨v, hv⟩ := get_some (l := (pathL (seg l s n) k)) (i := z) hstop.2
        by_cases huv : u = v
        · subst huv
          have hst2 := cp_step hu hv
          (repeat' ((try (conv => whnf)); first | (with_reducible first | refine And.intro ?_ ?_ | refine WX.of ?_) | exact zc | ((with_reducible refine VC.mk ?_); exact zw) | with_reducible refine atL_0 hu ?_ | with_reducible refine atL_0 hv ?_ | (with_reducible first | refine splitT ?_ | refine splitF ?_) | ((with_reducible refine splitM.mk (fun hsm => ?_) (fun hsm => ?_)) <;> (try exact zx)) | ((with_reducible refine splitB.mk (fun h => ?_) (fun h => ?_)) <;> (try simp only [zs, ne_eq] at h) <;> (try simp (disch := omega) only [w64] at h) <;> (try exact zx)) | (with_reducible intro hz; (try exact absurd hz (Nat.succ_ne_zero _)))))
          refine ⟨z + 1, by omega, ⟨hstop.1, hstop.2, by omega⟩, ?_⟩
          (repeat' ((try (conv => whnf)); first | (with_reducible first | refine And.intro ?_ ?_ | refine WX.of ?_) | exact zc | ((with_reducible refine VC.mk ?_); exact zw) | (with_reducible first | refine splitT ?_ | refine splitF ?_) | ((with_reducible refine splitM.mk (fun hsm => ?_) (fun hsm => ?_)) <;> (try exact zx)) | ((with_reducible refine splitB.mk (fun h => ?_) (fun h => ?_)) <;> (try simp only [zs, ne_eq] at h) <;> (try simp (disch := omega) only [w64] at h) <;> (try exact zx)) | (with_reducible intro hz; (try exact absurd hz (Nat.succ_ne_zero _)))))
          all_goals exact ⟨by rw [w64 (by omega)]; rfl⟩
        · have hst2 := cp_stop hu hv huv
          rw [hst2, Nat.add_zero] at hz
          have hds : dfO (seg l s n) i k day = dfN (seg l s n) day (pathL (seg l s n) i) (pathL (seg l s n) k) z := by unfold dfO; rw [hz]
          by_cases hik : i = k
          · exact absurd (by subst hik; rw [hu] at hv; exact Option.some.inj hv) huv
          by_cases hz0 : z = 0
          · subst hz0
            have ht := df_tol0 (seg l s n) day (pathL (seg l s n) i) (pathL (seg l s n) k)
            rw [← hds] at ht
            have e1 : dfA (seg l s n) day (pathL (seg l s n) i) 0 = alT (seg l s n) day (pathL (seg l s n) i) (((0, 1), 0, 1), false) := rfl
            have e2 : dfA (seg l s n) day (pathL (seg l s n) k) 0 = alT (seg l s n) day (pathL (seg l s n) k) (((0, 1), 0, 1), false) := rfl
            rw [e1, e2] at ht
            have e3 := alT_or (seg l s n) day (pathL (seg l s n) k) (((0, 1), 0, 1), (alT (seg l s n) day (pathL (seg l s n) i) (((0, 1), 0, 1), false)).2)
            dsimp only at e3
            have hsm1 := smS_al (seg l s n) day (pathL (seg l s n) i) (((0, 1), 0, 1), false) smS_0
            have hsm2 := smS_al (seg l s n) day (pathL (seg l s n) k) (((0, 1), 0, 1), (alT (seg l s n) day (pathL (seg l s n) i) (((0, 1), 0, 1), false)).2) smS_0
            (repeat' ((try dsimp only); (try (conv => whnf)); first | (with_reducible first | refine And.intro ?_ ?_ | refine WX.of ?_) | exact zc | ((with_reducible refine VC.mk ?_); exact zw) | with_reducible refine atL_0 hu ?_ | with_reducible refine atL_0 hv ?_ | ((with_reducible refine splitT_of ?_ ?_); (focus (simp only [huv, hik, Bool.not_true, Bool.not_false, decide_true, decide_false]; done))) | ((with_reducible refine splitF_of ?_ ?_); (focus (simp only [huv, hik, Bool.not_true, Bool.not_false, decide_true, decide_false]; done))) | ((with_reducible refine VC.mk ?_); exact ⟨rfl, ⟨hq.1.1, hc⟩, hi, hd⟩) | ((with_reducible refine VC.mk ?_); exact ⟨rfl, ⟨hq.1.1, hc⟩, hk, hd⟩) | ((with_reducible refine VC.mk ?_); exact ⟨rfl, hsm1, hsm2⟩) | (with_reducible first | refine splitT ?_ | refine splitF ?_) | ((with_reducible refine splitM.mk (fun hsm => ?_) (fun hsm => ?_)) <;> (try exact zx)) | ((with_reducible refine splitB.mk (fun h => ?_) (fun h => ?_)) <;> (try simp only [zs, ne_eq] at h) <;> (try simp (disch := omega) only [w64] at h) <;> (try exact zx)) | (with_reducible intro hz; (try exact absurd hz (Nat.succ_ne_zero _)))))
            refine ⟨?_⟩
            rw [e3]
            rcases ht with ⟨hb, ho⟩ | ⟨hb, ho⟩
            · rw [← Bool.or_assoc] at hb
              rw [ho]; simp only [prE, hb, if_true]; rfl
            · rw [← Bool.or_assoc] at hb
              rw [ho]; simp only [prE, hb, Bool.false_eq_true, if_false]; rfl
          · have ht := df_tol1 (seg l s n) day (pathL (seg l s n) i) (pathL (seg l s n) k) hz0
            rw [← hds] at ht
            have hsdA : (seg (pathL (seg l s n) i) 0 (pathL (seg l s n) i).length).drop ((z : Nat) : Int).toNat = (pathL (seg l s n) i).drop z := by rw [hsA, Int.toNat_natCast]
            have hsdB : (seg (pathL (seg l s n) k) 0 (pathL (seg l s n) k).length).drop ((z : Nat) : Int).toNat = (pathL (seg l s n) k).drop z := by rw [hsB, Int.toNat_natCast]
            have e3 := alT_or (seg l s n) day ((pathL (seg l s n) k).drop z) (s00, (alT (seg l s n) day ((pathL (seg l s n) i).drop z) (s00, false)).2)
            dsimp only at e3
            obtain ⟨g, hg1⟩ := get_some (l := (pathL (seg l s n) i)) (i := z - 1) (by omega)
            have hgr := path_mem hc hi0.2 g (List.mem_of_getElem? hg1)
            have hgr1 : 0 ≤ g ∧ g < (seg l s n).length := by omega
            have hgr2 := ir_n hgr1 hL
            obtain ⟨⟨nm1, fr1, ⟨⟨p1, q1⟩, p1', q1'⟩, ⟨dp1, dq1⟩, md1, gd1⟩, hga, hgst, hgo⟩ := ch_z hc hgr1
            have hgdr := smF_ok hgo.dr
            dsimp only at hgdr
            have hWA' : ∀ j ∈ (pathL (seg l s n) i), 0 ≤ j ∧ j < (seg l s n).length := by rw [← hsA]; exact hWA
            have hWB' : ∀ j ∈ (pathL (seg l s n) k), 0 ≤ j ∧ j < (seg l s n).length := by rw [← hsB]; exact hWB
            have hda := dB hc hd hWA' z
            have hdb := dB hc hd hWB' z
            have hmx := mx_ok hda hdb
            rw [hg1] at ht
            dsimp only [Option.getD_some] at ht
            rw [hgst] at ht
            have hAl : (pathL (seg l s n) i).length ≤ 40 := by omega
            have hBl : (pathL (seg l s n) k).length ≤ 40 := by omega
            (repeat' ((try dsimp only); (try (conv => whnf)); first | (with_reducible first | refine And.intro ?_ ?_ | refine WX.of ?_) | exact zc | ((with_reducible refine VC.mk ?_); exact zw) | with_reducible refine atL_0 hu ?_ | with_reducible refine atL_0 hv ?_ | with_reducible refine atL_e (j := z - 1) (by simp (disch := omega) only [w64]; omega) hg1 ?_ | with_reducible refine atL_p (seg_get hga).1 ?_ | ((with_reducible refine splitT_of ?_ ?_); (focus (simp only [huv, hik, hz0, Int.natCast_eq_zero, Bool.not_true, Bool.not_false, decide_true, decide_false]; done))) | ((with_reducible refine splitF_of ?_ ?_); (focus (simp only [huv, hik, hz0, Int.natCast_eq_zero, Bool.not_true, Bool.not_false, decide_true, decide_false]; done))) | ((with_reducible refine VC.mk ?_); exact ⟨⟨hq.1.1, hc⟩, ⟨Nat.le_of_eq (Nat.zero_add _), hAl, hWA⟩, hd, Int.natCast_nonneg _, Int.ofNat_le.2 hz1⟩) | ((with_reducible refine VC.mk ?_); exact ⟨⟨hq.1.1, hc⟩, ⟨Nat.le_of_eq (Nat.zero_add _), hBl, hWB⟩, hd, Int.natCast_nonneg _, Int.ofNat_le.2 hz2⟩) | ((with_reducible refine VC.mk ?_); exact hgr2) | ((with_reducible refine VC.mk ?_); exact ⟨rfl, smS_al _ _ _ _ smS_0, smS_al _ _ _ _ smS_0⟩) | ((with_reducible refine VC.mk ?_); exact ⟨rfl, hgdr, by rw [hsdA, hsdB, hmx.1, hmx.2.1, hmx.2.2.1]; exact hmx.2.2.2.1⟩) | ((with_reducible refine VC.mk ?_); exact ⟨rfl, smS_mi _ _, smF_mu _ _⟩) | (with_reducible first | refine splitT ?_ | refine splitF ?_) | ((with_reducible refine splitM.mk (fun hsm => ?_) (fun hsm => ?_)) <;> (try exact zx)) | ((with_reducible refine splitB.mk (fun h => ?_) (fun h => ?_)) <;> (try simp only [zs, ne_eq] at h) <;> (try simp (disch := omega) only [w64] at h) <;> (try exact zx)) | (with_reducible intro hz; (try exact absurd hz (Nat.succ_ne_zero _)))))
            refine ⟨?_⟩
            rw [hsdA, hsdB, hmx.1, hmx.2.1, hmx.2.2.1, e3]
            unfold dfA drV drB at ht
            generalize alT (seg l s n) day ((pathL (seg l s n) i).drop z) (s00, false) = X at *
            generalize alT (seg l s n) day ((pathL (seg l s n) k).drop z) (s00, false) = Y at *
            rcases ht with ⟨hb, ho⟩ | ⟨hb, ho⟩
            · simp only [← Bool.or_assoc] at hb
              rw [ho]; simp only [prE, ← Bool.or_assoc, hb, if_true]; rfl
            · simp only [← Bool.or_assoc] at hb
              rw [ho]; simp only [prE, ← Bool.or_assoc, hb, Bool.false_eq_true, if_false]; rfl
      · rcases Nat.lt_or_ge z (pathL (seg l s n) i).length with hlt | hge
        · obtain ⟨u, hu⟩ := get_some (l := (pathL (seg l s n) i)) (i := z) hlt
          have hzB : z = (pathL (seg l s n) k).length := by omega
          have hst2 := cp_end (a := (pathL (seg l s n) i)) (b := (pathL (seg l s n) k)) (n := z) (.inr (by omega))
          rw [hst2, Nat.add_zero] at hz
          have hds : dfO (seg l s n) i k day = dfN (seg l s n) day (pathL (seg l s n) i) (pathL (seg l s n) k) z := by unfold dfO; rw [hz]
          by_cases hik : i = k
          · exact absurd hlt (by subst hik; omega)
          by_cases hz0 : z = 0
          · subst hz0
            have ht := df_tol0 (seg l s n) day (pathL (seg l s n) i) (pathL (seg l s n) k)
            rw [← hds] at ht
            have e1 : dfA (seg l s n) day (pathL (seg l s n) i) 0 = alT (seg l s n) day (pathL (seg l s n) i) (((0, 1), 0, 1), false) := rfl
            have e2 : dfA (seg l s n) day (pathL (seg l s n) k) 0 = alT (seg l s n) day (pathL (seg l s n) k) (((0, 1), 0, 1), false) := rfl
            rw [e1, e2] at ht
            have e3 := alT_or (seg l s n) day (pathL (seg l s n) k) (((0, 1), 0, 1), (alT (seg l s n) day (pathL (seg l s n) i) (((0, 1), 0, 1), false)).2)
            dsimp only at e3
            have hsm1 := smS_al (seg l s n) day (pathL (seg l s n) i) (((0, 1), 0, 1), false) smS_0
            have hsm2 := smS_al (seg l s n) day (pathL (seg l s n) k) (((0, 1), 0, 1), (alT (seg l s n) day (pathL (seg l s n) i) (((0, 1), 0, 1), false)).2) smS_0
            (repeat' ((try dsimp only); (try (conv => whnf)); first | (with_reducible first | refine And.intro ?_ ?_ | refine WX.of ?_) | exact zc | ((with_reducible refine VC.mk ?_); exact zw) | ((with_reducible refine splitT_of ?_ ?_); (focus (simp only [hik, Bool.not_true, Bool.not_false, decide_true, decide_false]; done))) | ((with_reducible refine splitF_of ?_ ?_); (focus (simp only [hik, Bool.not_true, Bool.not_false, decide_true, decide_false]; done))) | ((with_reducible refine VC.mk ?_); exact ⟨rfl, ⟨hq.1.1, hc⟩, hi, hd⟩) | ((with_reducible refine VC.mk ?_); exact ⟨rfl, ⟨hq.1.1, hc⟩, hk, hd⟩) | ((with_reducible refine VC.mk ?_); exact ⟨rfl, hsm1, hsm2⟩) | (with_reducible first | refine splitT ?_ | refine splitF ?_) | ((with_reducible refine splitM.mk (fun hsm => ?_) (fun hsm => ?_)) <;> (try exact zx)) | ((with_reducible refine splitB.mk (fun h => ?_) (fun h => ?_)) <;> (try simp only [zs, ne_eq] at h) <;> (try simp (disch := omega) only [w64] at h) <;> (try exact zx)) | (with_reducible intro hz; (try exact absurd hz (Nat.succ_ne_zero _)))))
            refine ⟨?_⟩
            rw [e3]
            rcases ht with ⟨hb, ho⟩ | ⟨hb, ho⟩
            · rw [← Bool.or_assoc] at hb
              rw [ho]; simp only [prE, hb, if_true]; rfl
            · rw [← Bool.or_assoc] at hb
              rw [ho]; simp only [prE, hb, Bool.false_eq_true, if_false]; rfl
          · have ht := df_tol1 (seg l s n) day (pathL (seg l s n) i) (pathL (seg l s n) k) hz0
            rw [← hds] at ht
            have hsdA : (seg (pathL (seg l s n) i) 0 (pathL (seg l s n) i).length).drop ((z : Nat) : Int).toNat = (pathL (seg l s n) i).drop z := by rw [hsA, Int.toNat_natCast]
            have hsdB : (seg (pathL (seg l s n) k) 0 (pathL (seg l s n) k).length).drop ((z : Nat) : Int).toNat = (pathL (seg l s n) k).drop z := by rw [hsB, Int.toNat_natCast]
            have e3 := alT_or (seg l s n) day ((pathL (seg l s n) k).drop z) (s00, (alT (seg l s n) day ((pathL (seg l s n) i).drop z) (s00, false)).2)
            dsimp only at e3
            obtain ⟨g, hg1⟩ := get_some (l := (pathL (seg l s n) i)) (i := z - 1) (by omega)
            have hgr := path_mem hc hi0.2 g (List.mem_of_getElem? hg1)
            have hgr1 : 0 ≤ g ∧ g < (seg l s n).length := by omega
            have hgr2 := ir_n hgr1 hL
            obtain ⟨⟨nm1, fr1, ⟨⟨p1, q1⟩, p1', q1'⟩, ⟨dp1, dq1⟩, md1, gd1⟩, hga, hgst, hgo⟩ := ch_z hc hgr1
            have hgdr := smF_ok hgo.dr
            dsimp only at hgdr
            have hWA' : ∀ j ∈ (pathL (seg l s n) i), 0 ≤ j ∧ j < (seg l s n).length := by rw [← hsA]; exact hWA
            have hWB' : ∀ j ∈ (pathL (seg l s n) k), 0 ≤ j ∧ j < (seg l s n).length := by rw [← hsB]; exact hWB
            have hda := dB hc hd hWA' z
            have hdb := dB hc hd hWB' z
            have hmx := mx_ok hda hdb
            rw [hg1] at ht
            dsimp only [Option.getD_some] at ht
            rw [hgst] at ht
            have hAl : (pathL (seg l s n) i).length ≤ 40 := by omega
            have hBl : (pathL (seg l s n) k).length ≤ 40 := by omega
            (repeat' ((try dsimp only); (try (conv => whnf)); first | (with_reducible first | refine And.intro ?_ ?_ | refine WX.of ?_) | exact zc | ((with_reducible refine VC.mk ?_); exact zw) | with_reducible refine atL_e (j := z - 1) (by simp (disch := omega) only [w64]; omega) hg1 ?_ | with_reducible refine atL_p (seg_get hga).1 ?_ | ((with_reducible refine splitT_of ?_ ?_); (focus (simp only [hik, hz0, Int.natCast_eq_zero, Bool.not_true, Bool.not_false, decide_true, decide_false]; done))) | ((with_reducible refine splitF_of ?_ ?_); (focus (simp only [hik, hz0, Int.natCast_eq_zero, Bool.not_true, Bool.not_false, decide_true, decide_false]; done))) | ((with_reducible refine VC.mk ?_); exact ⟨⟨hq.1.1, hc⟩, ⟨Nat.le_of_eq (Nat.zero_add _), hAl, hWA⟩, hd, Int.natCast_nonneg _, Int.ofNat_le.2 hz1⟩) | ((with_reducible refine VC.mk ?_); exact ⟨⟨hq.1.1, hc⟩, ⟨Nat.le_of_eq (Nat.zero_add _), hBl, hWB⟩, hd, Int.natCast_nonneg _, Int.ofNat_le.2 hz2⟩) | ((with_reducible refine VC.mk ?_); exact hgr2) | ((with_reducible refine VC.mk ?_); exact ⟨rfl, smS_al _ _ _ _ smS_0, smS_al _ _ _ _ smS_0⟩) | ((with_reducible refine VC.mk ?_); exact ⟨rfl, hgdr, by rw [hsdA, hsdB, hmx.1, hmx.2.1, hmx.2.2.1]; exact hmx.2.2.2.1⟩) | ((with_reducible refine VC.mk ?_); exact ⟨rfl, smS_mi _ _, smF_mu _ _⟩) | (with_reducible first | refine splitT ?_ | refine splitF ?_) | ((with_reducible refine splitM.mk (fun hsm => ?_) (fun hsm => ?_)) <;> (try exact zx)) | ((with_reducible refine splitB.mk (fun h => ?_) (fun h => ?_)) <;> (try simp only [zs, ne_eq] at h) <;> (try simp (disch := omega) only [w64] at h) <;> (try exact zx)) | (with_reducible intro hz; (try exact absurd hz (Nat.succ_ne_zero _)))))
            refine ⟨?_⟩
            rw [hsdA, hsdB, hmx.1, hmx.2.1, hmx.2.2.1, e3]
            unfold dfA drV drB at ht
            generalize alT (seg l s n) day ((pathL (seg l s n) i).drop z) (s00, false) = X at *
            generalize alT (seg l s n) day ((pathL (seg l s n) k).drop z) (s00, false) = Y at *
            rcases ht with ⟨hb, ho⟩ | ⟨hb, ho⟩
            · simp only [← Bool.or_assoc] at hb
              rw [ho]; simp only [prE, ← Bool.or_assoc, hb, if_true]; rfl
            · simp only [← Bool.or_assoc] at hb
              rw [ho]; simp only [prE, ← Bool.or_assoc, hb, Bool.false_eq_true, if_false]; rfl
        · have hzA : z = (pathL (seg l s n) i).length := by omega
          have hst2 := cp_end (a := (pathL (seg l s n) i)) (b := (pathL (seg l s n) k)) (n := z) (.inl (by omega))
          rw [hst2, Nat.add_zero] at hz
          have hds : dfO (seg l s n) i k day = dfN (seg l s n) day (pathL (seg l s n) i) (pathL (seg l s n) k) z := by unfold dfO; rw [hz]
          by_cases hik : i = k
          · have hds2 := df_same hc hi0 day
            subst hik
            rw [hds2]
            (repeat' ((try dsimp only); (try (conv => whnf)); first | (with_reducible first | refine And.intro ?_ ?_ | refine WX.of ?_) | exact zc | ((with_reducible refine VC.mk ?_); exact zw) | (with_reducible first | refine splitT ?_ | refine splitF ?_) | ((with_reducible refine splitM.mk (fun hsm => ?_) (fun hsm => ?_)) <;> (try exact zx)) | ((with_reducible refine splitB.mk (fun h => ?_) (fun h => ?_)) <;> (try simp only [zs, ne_eq] at h) <;> (try simp (disch := omega) only [w64] at h) <;> (try exact zx)) | (with_reducible intro hz; (try exact absurd hz (Nat.succ_ne_zero _)))))
          by_cases hz0 : z = 0
          · subst hz0
            have ht := df_tol0 (seg l s n) day (pathL (seg l s n) i) (pathL (seg l s n) k)
            rw [← hds] at ht
            have e1 : dfA (seg l s n) day (pathL (seg l s n) i) 0 = alT (seg l s n) day (pathL (seg l s n) i) (((0, 1), 0, 1), false) := rfl
            have e2 : dfA (seg l s n) day (pathL (seg l s n) k) 0 = alT (seg l s n) day (pathL (seg l s n) k) (((0, 1), 0, 1), false) := rfl
            rw [e1, e2] at ht
            have e3 := alT_or (seg l s n) day (pathL (seg l s n) k) (((0, 1), 0, 1), (alT (seg l s n) day (pathL (seg l s n) i) (((0, 1), 0, 1), false)).2)
            dsimp only at e3
            have hsm1 := smS_al (seg l s n) day (pathL (seg l s n) i) (((0, 1), 0, 1), false) smS_0
            have hsm2 := smS_al (seg l s n) day (pathL (seg l s n) k) (((0, 1), 0, 1), (alT (seg l s n) day (pathL (seg l s n) i) (((0, 1), 0, 1), false)).2) smS_0
            (repeat' ((try dsimp only); (try (conv => whnf)); first | (with_reducible first | refine And.intro ?_ ?_ | refine WX.of ?_) | exact zc | ((with_reducible refine VC.mk ?_); exact zw) | ((with_reducible refine splitT_of ?_ ?_); (focus (simp only [hik, Bool.not_true, Bool.not_false, decide_true, decide_false]; done))) | ((with_reducible refine splitF_of ?_ ?_); (focus (simp only [hik, Bool.not_true, Bool.not_false, decide_true, decide_false]; done))) | ((with_reducible refine VC.mk ?_); exact ⟨rfl, ⟨hq.1.1, hc⟩, hi, hd⟩) | ((with_reducible refine VC.mk ?_); exact ⟨rfl, ⟨hq.1.1, hc⟩, hk, hd⟩) | ((with_reducible refine VC.mk ?_); exact ⟨rfl, hsm1, hsm2⟩) | (with_reducible first | refine splitT ?_ | refine splitF ?_) | ((with_reducible refine splitM.mk (fun hsm => ?_) (fun hsm => ?_)) <;> (try exact zx)) | ((with_reducible refine splitB.mk (fun h => ?_) (fun h => ?_)) <;> (try simp only [zs, ne_eq] at h) <;> (try simp (disch := omega) only [w64] at h) <;> (try exact zx)) | (with_reducible intro hz; (try exact absurd hz (Nat.succ_ne_zero _)))))
            refine ⟨?_⟩
            rw [e3]
            rcases ht with ⟨hb, ho⟩ | ⟨hb, ho⟩
            · rw [← Bool.or_assoc] at hb
              rw [ho]; simp only [prE, hb, if_true]; rfl
            · rw [← Bool.or_assoc] at hb
              rw [ho]; simp only [prE, hb, Bool.false_eq_true, if_false]; rfl
          · have ht := df_tol1 (seg l s n) day (pathL (seg l s n) i) (pathL (seg l s n) k) hz0
            rw [← hds] at ht
            have hsdA : (seg (pathL (seg l s n) i) 0 (pathL (seg l s n) i).length).drop ((z : Nat) : Int).toNat = (pathL (seg l s n) i).drop z := by rw [hsA, Int.toNat_natCast]
            have hsdB : (seg (pathL (seg l s n) k) 0 (pathL (seg l s n) k).length).drop ((z : Nat) : Int).toNat = (pathL (seg l s n) k).drop z := by rw [hsB, Int.toNat_natCast]
            have e3 := alT_or (seg l s n) day ((pathL (seg l s n) k).drop z) (s00, (alT (seg l s n) day ((pathL (seg l s n) i).drop z) (s00, false)).2)
            dsimp only at e3
            obtain ⟨g, hg1⟩ := get_some (l := (pathL (seg l s n) i)) (i := z - 1) (by omega)
            have hgr := path_mem hc hi0.2 g (List.mem_of_getElem? hg1)
            have hgr1 : 0 ≤ g ∧ g < (seg l s n).length := by omega
            have hgr2 := ir_n hgr1 hL
            obtain ⟨⟨nm1, fr1, ⟨⟨p1, q1⟩, p1', q1'⟩, ⟨dp1, dq1⟩, md1, gd1⟩, hga, hgst, hgo⟩ := ch_z hc hgr1
            have hgdr := smF_ok hgo.dr
            dsimp only at hgdr
            have hWA' : ∀ j ∈ (pathL (seg l s n) i), 0 ≤ j ∧ j < (seg l s n).length := by rw [← hsA]; exact hWA
            have hWB' : ∀ j ∈ (pathL (seg l s n) k), 0 ≤ j ∧ j < (seg l s n).length := by rw [← hsB]; exact hWB
            have hda := dB hc hd hWA' z
            have hdb := dB hc hd hWB' z
            have hmx := mx_ok hda hdb
            rw [hg1] at ht
            dsimp only [Option.getD_some] at ht
            rw [hgst] at ht
            have hAl : (pathL (seg l s n) i).length ≤ 40 := by omega
            have hBl : (pathL (seg l s n) k).length ≤ 40 := by omega
            (repeat' ((try dsimp only); (try (conv => whnf)); first | (with_reducible first | refine And.intro ?_ ?_ | refine WX.of ?_) | exact zc | ((with_reducible refine VC.mk ?_); exact zw) | with_reducible refine atL_e (j := z - 1) (by simp (disch := omega) only [w64]; omega) hg1 ?_ | with_reducible refine atL_p (seg_get hga).1 ?_ | ((with_reducible refine splitT_of ?_ ?_); (focus (simp only [hik, hz0, Int.natCast_eq_zero, Bool.not_true, Bool.not_false, decide_true, decide_false]; done))) | ((with_reducible refine splitF_of ?_ ?_); (focus (simp only [hik, hz0, Int.natCast_eq_zero, Bool.not_true, Bool.not_false, decide_true, decide_false]; done))) | ((with_reducible refine VC.mk ?_); exact ⟨⟨hq.1.1, hc⟩, ⟨Nat.le_of_eq (Nat.zero_add _), hAl, hWA⟩, hd, Int.natCast_nonneg _, Int.ofNat_le.2 hz1⟩) | ((with_reducible refine VC.mk ?_); exact ⟨⟨hq.1.1, hc⟩, ⟨Nat.le_of_eq (Nat.zero_add _), hBl, hWB⟩, hd, Int.natCast_nonneg _, Int.ofNat_le.2 hz2⟩) | ((with_reducible refine VC.mk ?_); exact hgr2) | ((with_reducible refine VC.mk ?_); exact ⟨rfl, smS_al _ _ _ _ smS_0, smS_al _ _ _ _ smS_0⟩) | ((with_reducible refine VC.mk ?_); exact ⟨rfl, hgdr, by rw [hsdA, hsdB, hmx.1, hmx.2.1, hmx.2.2.1]; exact hmx.2.2.2.1⟩) | ((with_reducible refine VC.mk ?_); exact ⟨rfl, smS_mi _ _, smF_mu _ _⟩) | (with_reducible first | refine splitT ?_ | refine splitF ?_) | ((with_reducible refine splitM.mk (fun hsm => ?_) (fun hsm => ?_)) <;> (try exact zx)) | ((with_reducible refine splitB.mk (fun h => ?_) (fun h => ?_)) <;> (try simp only [zs, ne_eq] at h) <;> (try simp (disch := omega) only [w64] at h) <;> (try exact zx)) | (with_reducible intro hz; (try exact absurd hz (Nat.succ_ne_zero _)))))
            refine ⟨?_⟩
            rw [hsdA, hsdB, hmx.1, hmx.2.1, hmx.2.2.1, e3]
            unfold dfA drV drB at ht
            generalize alT (seg l s n) day ((pathL (seg l s n) i).drop z) (s00, false) = X at *
            generalize alT (seg l s n) day ((pathL (seg l s n) k).drop z) (s00, false) = Y at *
            rcases ht with ⟨hb, ho⟩ | ⟨hb, ho⟩
            · simp only [← Bool.or_assoc] at hb
              rw [ho]; simp only [prE, ← Bool.or_assoc, hb, if_true]; rfl
            · simp only [← Bool.or_assoc] at hb
              rw [ho]; simp only [prE, ← Bool.or_assoc, hb, Bool.false_eq_true, if_false]; rfl
end Go.Proofs.Ytnmpgofhdjcpaaa.Eng
set_option linter.unusedVariables false
set_option linter.unusedSimpArgs false
namespace Go.Proofs.Ytnmpgofhdjcpaaa.Eng
open Go Go.RowKit
set_option maxRecDepth 100000
def s_begin : Spec := fun args S => match args, S with
  | [.sl 0 s n x, .sl 1 t m y, .int .i64 day], [.arr (.prod .str (.prod (.int .i64) (.prod (.prod (.prod (.int .i64) (.int .i64)) (.prod (.int .i64) (.int .i64))) (.prod (.prod (.int .i64) (.int .i64)) (.prod (.int .i64) (.int .i64)))))) l 10 wr, .arr (.int .i64) w 1 ww] => ⟨(s + n ≤ l.length ∧ chB (seg l s n) = true) ∧ (t + m ≤ w.length ∧ m ≤ 40 ∧ ∀ j ∈ seg w t m, 0 ≤ j ∧ j < (seg l s n).length), .int .i64 (nxD (seg l s n) day (seg w t m)), [.arr (.prod .str (.prod (.int .i64) (.prod (.prod (.prod (.int .i64) (.int .i64)) (.prod (.int .i64) (.int .i64))) (.prod (.prod (.int .i64) (.int .i64)) (.prod (.int .i64) (.int .i64)))))) l 10 wr, .arr (.int .i64) w 1 ww]⟩
  | _, _ => noSpec
theorem ok_l05Begin : SpecOk Try.prog 100 s_begin := by
  intro args S h; unfold s_begin at h ⊢; (split at h <;> first | exact False.elim h | skip)
  dsimp only at h ⊢
  rename_i s n x t m y day l wr w ww
  obtain ⟨⟨h1, hc⟩, ⟨h3, h4, hW⟩⟩ := h
  have hL := seg_len h1
  have hM := seg_len h3
  by_cases hm : m = 0
  · have e : seg w t m = [] := List.eq_nil_of_length_eq_zero (by omega)
    rw [e]
    subst hm
    refine funW tabOk (E := []) trivial [] (k := 2) (fn := Try.f100) rfl rfl rfl rfl rfl rfl ?_
    (repeat' ((try (conv => whnf)); first | (with_reducible first | refine And.intro ?_ ?_ | refine WX.of ?_) | exact zc | ((with_reducible refine VC.mk ?_); exact zw) | (with_reducible first | refine splitT ?_ | refine splitF ?_) | ((with_reducible refine splitM.mk (fun hsm => ?_) (fun hsm => ?_)) <;> (try exact zx)) | ((with_reducible refine splitB.mk (fun h => ?_) (fun h => ?_)) <;> (try simp only [zs, ne_eq] at h) <;> (try simp (disch := omega) only [w64] at h) <;> (try exact zx)) | (with_reducible intro hz; (try exact absurd hz (Nat.succ_ne_zero _)))))
  · obtain ⟨i, hi⟩ := get_some (l := seg w t m) (i := 0) (by omega)
    have hir := hW i (List.mem_of_getElem? hi)
    have hir' := ir_n hir hL
    obtain ⟨⟨nm, fr, ⟨⟨p, q⟩, p', q'⟩, ⟨dp, dq⟩, md, gd⟩, ha, hst, ho⟩ := ch_z hc hir
    have e : nxD (seg l s n) day (seg w t m) = md := by
      have := drop_at hi
      rw [List.drop_zero] at this
      rw [this]; show stMd _ = md; rw [hst]; rfl
    rw [e]
    have hmz : ¬ (m : Int) = 0 := by omega
    refine funW tabOk (E := []) trivial [] (k := 2) (fn := Try.f100) rfl rfl rfl rfl rfl rfl ?_
    have hi2 : w[t + (0 : Int).toNat]? = some i := by simpa using (seg_get hi).1
    (repeat' ((try (conv => whnf)); first | (with_reducible first | refine And.intro ?_ ?_ | refine WX.of ?_) | exact zc | ((with_reducible refine VC.mk ?_); exact zw) | with_reducible refine atL_p hi2 ?_ | with_reducible refine atL_p (seg_get ha).1 ?_ | ((with_reducible refine splitT_of ?_ ?_); (focus (simp only [hmz, Bool.not_true, Bool.not_false, decide_true, decide_false]; done))) | ((with_reducible refine splitF_of ?_ ?_); (focus (simp only [hmz, Bool.not_true, Bool.not_false, decide_true, decide_false]; done))) | ((with_reducible refine VC.mk ?_); exact hir') | (with_reducible first | refine splitT ?_ | refine splitF ?_) | ((with_reducible refine splitM.mk (fun hsm => ?_) (fun hsm => ?_)) <;> (try exact zx)) | ((with_reducible refine splitB.mk (fun h => ?_) (fun h => ?_)) <;> (try simp only [zs, ne_eq] at h) <;> (try simp (disch := omega) only [w64] at h) <;> (try exact zx)) | (with_reducible intro hz; (try exact absurd hz (Nat.succ_ne_zero _)))))
theorem df_1 {L : List StT} {day : Int} {a b : List Int} {n : Nat} (h : ¬ oCS (alO L day (a.drop n) s00) = 0) : dfN L day a b n = none ∧ oCS (alO L day (a.drop n) s00) = 3 := by
  have := oCS_n h
  unfold dfN; rw [this]; exact ⟨rfl, rfl⟩
theorem df_2 {L : List StT} {day : Int} {a b : List Int} {n : Nat} {s : SpT} (h : alO L day (a.drop n) s00 = some s) (h2 : ¬ oCS (alO L day (b.drop n) s00) = 0) : dfN L day a b n = none ∧ oCS (alO L day (b.drop n) s00) = 3 := by
  have := oCS_n h2
  unfold dfN; rw [h, this]; exact ⟨rfl, rfl⟩
theorem df_3 {L : List StT} {day : Int} {a b : List Int} {n : Nat} {s t : SpT} (h : alO L day (a.drop n) s00 = some s) (h2 : alO L day (b.drop n) s00 = some t) (h3 : ¬ oCS (miO s t) = 0) : dfN L day a b n = none ∧ oCS (miO s t) = 3 := by
  have := oCS_n h3
  unfold dfN; rw [h, h2]; simp only [Option.bind_some]; rw [this]; exact ⟨rfl, rfl⟩
theorem df_4 {L : List StT} {day : Int} {a b : List Int} {s t : SpT} (h : alO L day (a.drop 0) s00 = some s) (h2 : alO L day (b.drop 0) s00 = some t) : dfN L day a b 0 = miO s t := by
  unfold dfN; rw [h, h2]; simp
theorem df_5 {L : List StT} {day : Int} {a b : List Int} {n : Nat} {s t d : SpT} (h : alO L day (a.drop n) s00 = some s) (h2 : alO L day (b.drop n) s00 = some t) (h3 : miO s t = some d) (hn : ¬ n = 0) : dfN L day a b n = drO d (stAt L ((a[n - 1]?).getD 0)).2.2.2.1 (absZ (nxD L day (a.drop n) - nxD L day (b.drop n))) := by
  unfold dfN; rw [h, h2]; simp only [Option.bind_some, h3]; rw [if_neg hn]
theorem smS_alO {L : List StT} {day : Int} : ∀ {W : List Int} {s v : SpT}, smS s → alO L day W s = some v → smS v
  | [], s, v, hs, e => by obtain rfl := Option.some.inj e; exact hs
  | i :: W, s, v, hs, e => by
    rw [alO] at e
    obtain ⟨u, h1, e⟩ := Option.bind_eq_some_iff.1 e
    refine smS_alO ?_ e
    unfold alO1 at h1
    obtain ⟨w, _, h1⟩ := Option.bind_eq_some_iff.1 h1
    exact smS_drO h1
theorem sd_A {W : List Int} {z : Nat} {y : Nat} (h : y = z) : seg W (0 + y) (W.length - y) = W.drop z := by subst h; rw [Nat.zero_add]; unfold seg; rw [List.take_of_length_le (by simp)]
def s_l05Diff : Spec := fun args S => match args, S with
  | [.sl 0 s n x, .int .i64 i, .int .i64 k, .int .i64 day], [.arr (.prod .str (.prod (.int .i64) (.prod (.prod (.prod (.int .i64) (.int .i64)) (.prod (.int .i64) (.int .i64))) (.prod (.prod (.int .i64) (.int .i64)) (.prod (.int .i64) (.int .i64)))))) l 10 wr] => ⟨(s + n ≤ l.length ∧ chB (seg l s n) = true) ∧ (0 ≤ i ∧ i < n) ∧ (0 ≤ k ∧ k < n) ∧ 0 ≤ day ∧ day ≤ 100000, .tup [.agg [.int .i64 (coV 0 (gdB (stAt (seg l s n) i) day && gdB (stAt (seg l s n) k) day) (dfO (seg l s n) i k day)).1.1, .int .i64 (coV 0 (gdB (stAt (seg l s n) i) day && gdB (stAt (seg l s n) k) day) (dfO (seg l s n) i k day)).1.2, .int .i64 (coV 0 (gdB (stAt (seg l s n) i) day && gdB (stAt (seg l s n) k) day) (dfO (seg l s n) i k day)).2.1, .int .i64 (coV 0 (gdB (stAt (seg l s n) i) day && gdB (stAt (seg l s n) k) day) (dfO (seg l s n) i k day)).2.2], .int .i64 (coC 0 (gdB (stAt (seg l s n) i) day && gdB (stAt (seg l s n) k) day) (dfO (seg l s n) i k day))], [.arr (.prod .str (.prod (.int .i64) (.prod (.prod (.prod (.int .i64) (.int .i64)) (.prod (.int .i64) (.int .i64))) (.prod (.prod (.int .i64) (.int .i64)) (.prod (.int .i64) (.int .i64)))))) l 10 wr]⟩
  | _, _ => noSpec
set_option maxHeartbeats 3200000 in
theorem ok_l05Diff : SpecOk Try.prog 50 s_l05Diff := by
  intro args S h; unfold s_l05Diff at h ⊢; (split at h <;> first | exact False.elim h | skip)
  dsimp only at h ⊢
  rename_i s n x i k day l wr
  obtain ⟨⟨h1, hc⟩, hi, hk, hd⟩ := h
  have hL := seg_len h1
  have hi0 : 0 ≤ i ∧ i < (seg l s n).length := by omega
  have hk0 : 0 ≤ k ∧ k < (seg l s n).length := by omega
  obtain ⟨a, ha, hst, ho⟩ := ch_z hc hi0
  obtain ⟨b, hb, hst0, ho0⟩ := ch_z hc hk0
  have hla := (seg_get ha).1
  have hlb := (seg_get hb).1
  have hgo : s + i.toNat < l.length ∧ (0 ≤ ((l[s + i.toNat]?).getD stD).2.2.2.2.1 ∧ ((l[s + i.toNat]?).getD stD).2.2.2.2.1 ≤ 100000) ∧ 0 ≤ ((l[s + i.toNat]?).getD stD).2.2.2.2.2 ∧ ((l[s + i.toNat]?).getD stD).2.2.2.2.2 ≤ 100000 := by
    rw [hla]; exact ⟨(List.getElem?_eq_some_iff.1 hla).1, ho.md, ho.gd⟩
  have hgo0 : s + k.toNat < l.length ∧ (0 ≤ ((l[s + k.toNat]?).getD stD).2.2.2.2.1 ∧ ((l[s + k.toNat]?).getD stD).2.2.2.2.1 ≤ 100000) ∧ 0 ≤ ((l[s + k.toNat]?).getD stD).2.2.2.2.2 ∧ ((l[s + k.toNat]?).getD stD).2.2.2.2.2 ≤ 100000 := by
    rw [hlb]; exact ⟨(List.getElem?_eq_some_iff.1 hlb).1, ho0.md, ho0.gd⟩
  have hga : ((l[s + i.toNat]?).getD stD) = stAt (seg l s n) i := by rw [hla, hst]; rfl
  have hgb : ((l[s + k.toNat]?).getD stD) = stAt (seg l s n) k := by rw [hlb, hst0]; rfl
  rw [← hga, ← hgb]
  cases hg : (gdB ((l[s + i.toNat]?).getD stD) day && gdB ((l[s + k.toNat]?).getD stD) day) with
  | false =>
    rw [(co_2 rfl).1, (co_2 rfl).2]
    refine funW tabOk (E := [(68, s_l05Good)]) ⟨ok_l05Good, trivial⟩ [(8, [(3, 1), (10, 0), (10, 1)]), (11, [(3, 1), (10, 0), (10, 1)]), (17, [(9, 0)])] (k := 1) (fn := Try.f50) rfl rfl rfl rfl rfl rfl ?_
    (repeat' ((try (conv => whnf)); first | (with_reducible first | refine And.intro ?_ ?_ | refine WX.of ?_) | exact zc | ((with_reducible refine VC.mk ?_); exact zw) | ((with_reducible refine VC.mk ?_); exact hi) | ((with_reducible refine VC.mk ?_); exact hk) | ((with_reducible refine VC.mk ?_); exact hgo) | ((with_reducible refine VC.mk ?_); exact hgo0) | (with_reducible first | refine splitT ?_ | refine splitF ?_) | ((with_reducible refine splitM.mk (fun hsm => ?_) (fun hsm => ?_)) <;> (try exact zx)) | ((with_reducible refine splitB.mk (fun h => ?_) (fun h => ?_)) <;> (try simp only [zs, ne_eq] at h) <;> (try simp (disch := omega) only [w64] at h) <;> (try exact zx)) | (with_reducible intro hz; (try exact absurd hz (Nat.succ_ne_zero _)))))
    rename_i hx
    rw [hx, h] at hg
    simp at hg
  | true =>
    rw [(co_3 rfl).1, (co_3 rfl).2]
    rw [Bool.and_eq_true] at hg
    have hpa := path_30 hc hi0.2
    have hpb := path_30 hc hk0.2
    have hsA := seg_all (pathL (seg l s n) i)
    have hsB := seg_all (pathL (seg l s n) k)
    have hcl := cp_le (pathL (seg l s n) i) (pathL (seg l s n) k)
    have hWA' : ∀ j ∈ (pathL (seg l s n) i), 0 ≤ j ∧ j < (seg l s n).length := fun j hj => by have := path_mem hc hi0.2 j hj; omega
    have hWB' : ∀ j ∈ (pathL (seg l s n) k), 0 ≤ j ∧ j < (seg l s n).length := fun j hj => by have := path_mem hc hk0.2 j hj; omega
    refine funW tabOk (E := [(68, s_l05Good), (95, s_path), (97, s_none), (96, s_alongS), (98, s_agst), (100, s_begin), (99, s_abs), (101, s_wider)]) ⟨ok_l05Good, ok_l05Path, ok_l05Nothing, ok_l05Along, ok_l01Against, ok_l05Begin, ok_l01Abs, ok_l05Wider, trivial⟩ [(8, [(3, 1), (10, 0), (10, 1)]), (11, [(3, 1), (10, 0), (10, 1)]), (17, [(9, 0)])] (k := 1) (fn := Try.f50) rfl rfl rfl rfl rfl rfl ?_
    (repeat' ((try (conv => whnf)); first | (with_reducible first | refine And.intro ?_ ?_ | refine WX.of ?_) | exact zc | ((with_reducible refine VC.mk ?_); exact zw) | ((with_reducible refine VC.mk ?_); exact hi) | ((with_reducible refine VC.mk ?_); exact hk) | ((with_reducible refine VC.mk ?_); exact hgo) | ((with_reducible refine VC.mk ?_); exact hgo0) | ((with_reducible refine VC.mk ?_); exact ⟨h1, hc, hi.2⟩) | ((with_reducible refine VC.mk ?_); exact ⟨h1, hc, hk.2⟩) | ((with_reducible refine splitT_of ?_ ?_); (focus (simp only [hg.1, hg.2, Bool.not_true, Bool.not_false, decide_true, decide_false]; done))) | ((with_reducible refine splitF_of ?_ ?_); (focus (simp only [hg.1, hg.2, Bool.not_true, Bool.not_false, decide_true, decide_false]; done))) | (with_reducible first | refine splitT ?_ | refine splitF ?_) | ((with_reducible refine splitM.mk (fun hsm => ?_) (fun hsm => ?_)) <;> (try exact zx)) | ((with_reducible refine splitB.mk (fun h => ?_) (fun h => ?_)) <;> (try simp only [zs, ne_eq] at h) <;> (try simp (disch := omega) only [w64] at h) <;> (try exact zx)) | (with_reducible intro hz; (try exact absurd hz (Nat.succ_ne_zero _)))))
    refine loopW tabOk (E := [(68, s_l05Good), (95, s_path), (97, s_none), (96, s_alongS), (98, s_agst), (100, s_begin), (99, s_abs), (101, s_wider)]) ⟨ok_l05Good, ok_l05Path, ok_l05Nothing, ok_l05Along, ok_l01Against, ok_l05Begin, ok_l01Abs, ok_l05Wider, trivial⟩ [(8, [(3, 1), (10, 0), (10, 1)]), (11, [(3, 1), (10, 0), (10, 1)]), (17, [(9, 0)])] (σ := Nat) (fun z => [(0, .sl 0 s n x), (1, .int .i64 i), (2, .int .i64 k), (3, .int .i64 day), (8, .ptr 1 0 0), (9, .int .i64 0), (10, .sl 2 0 (pathL (seg l s n) i).length 0), (11, .sl 3 0 (pathL (seg l s n) k).length 0), (12, .int .i64 z)]) (fun z => [.arr (.prod .str (.prod (.int .i64) (.prod (.prod (.prod (.int .i64) (.int .i64)) (.prod (.int .i64) (.int .i64))) (.prod (.prod (.int .i64) (.int .i64)) (.prod (.int .i64) (.int .i64)))))) l 10 wr, .arr (.prod (.prod (.int .i64) (.int .i64)) (.prod (.int .i64) (.int .i64))) [((0, 0), 0, 0)] 0 true, .arr (.int .i64) (pathL (seg l s n) i) 1 true, .arr (.int .i64) (pathL (seg l s n) k) 1 true]) (fun z => (pathL (seg l s n) i).length - z) (fun z => z ≤ (pathL (seg l s n) i).length ∧ z ≤ (pathL (seg l s n) k).length ∧ cpN (pathL (seg l s n) i) (pathL (seg l s n) k) = z + cpN ((pathL (seg l s n) i).drop z) ((pathL (seg l s n) k).drop z)) 0 ⟨Nat.zero_le _, Nat.zero_le _, by simp⟩ ?_ ?_
    · (repeat' ((try (conv => whnf)); first | (with_reducible first | refine And.intro ?_ ?_ | refine WX.of ?_) | exact zc | ((with_reducible refine VC.mk ?_); exact zw) | (with_reducible first | refine splitT ?_ | refine splitF ?_) | ((with_reducible refine splitM.mk (fun hsm => ?_) (fun hsm => ?_)) <;> (try exact zx)) | ((with_reducible refine splitB.mk (fun h => ?_) (fun h => ?_)) <;> (try simp only [zs, ne_eq] at h) <;> (try simp (disch := omega) only [w64] at h) <;> (try exact zx)) | (with_reducible intro hz; (try exact absurd hz (Nat.succ_ne_zero _)))))
    · intro z ⟨hz1, hz2, hz⟩
      by_cases hstop : z < (pathL (seg l s n) i).length ∧ z < (pathL (seg l s n) k).length
      · obtain ⟨u, hu⟩ := get_some (l := (pathL (seg l s n) i)) (i := z) hstop.1
        obtain ⟨v, hv⟩ := get_some (l := (pathL (seg l s n) k)) (i := z) hstop.2
        by_cases huv : u = v
        · subst huv
          have hst2 := cp_step hu hv
          (repeat' ((try (conv => whnf)); first | (with_reducible first | refine And.intro ?_ ?_ | refine WX.of ?_) | exact zc | ((with_reducible refine VC.mk ?_); exact zw) | with_reducible refine atL_0 hu ?_ | with_reducible refine atL_0 hv ?_ | (with_reducible first | refine splitT ?_ | refine splitF ?_) | ((with_reducible refine splitM.mk (fun hsm => ?_) (fun hsm => ?_)) <;> (try exact zx)) | ((with_reducible refine splitB.mk (fun h => ?_) (fun h => ?_)) <;> (try simp only [zs, ne_eq] at h) <;> (try simp (disch := omega) only [w64] at h) <;> (try exact zx)) | (with_reducible intro hz; (try exact absurd hz (Nat.succ_ne_zero _)))))
          refine ⟨z + 1, by omega, ⟨hstop.1, hstop.2, by omega⟩, ?_⟩
          (repeat' ((try (conv => whnf)); first | (with_reducible first | refine And.intro ?_ ?_ | refine WX.of ?_) | exact zc | ((with_reducible refine VC.mk ?_); exact zw) | (with_reducible first | refine splitT ?_ | refine splitF ?_) | ((with_reducible refine splitM.mk (fun hsm => ?_) (fun hsm => ?_)) <;> (try exact zx)) | ((with_reducible refine splitB.mk (fun h => ?_) (fun h => ?_)) <;> (try simp only [zs, ne_eq] at h) <;> (try simp (disch := omega) only [w64] at h) <;> (try exact zx)) | (with_reducible intro hz; (try exact absurd hz (Nat.succ_ne_zero _)))))
        · have hst2 := cp_stop hu hv huv
          rw [hst2, Nat.add_zero] at hz
          have hds : dfO (seg l s n) i k day = dfN (seg l s n) day (pathL (seg l s n) i) (pathL (seg l s n) k) z := by unfold dfO; rw [hz]
          have hzn : ((z : Nat) : Int).toNat = z := Int.toNat_natCast z
          have hsdA := sd_A (W := (pathL (seg l s n) i)) hzn
          have hsdB := sd_A (W := (pathL (seg l s n) k)) hzn
          have hrA : 0 + ((z : Nat) : Int).toNat + ((pathL (seg l s n) i).length - ((z : Nat) : Int).toNat) ≤ (pathL (seg l s n) i).length ∧ (pathL (seg l s n) i).length - ((z : Nat) : Int).toNat ≤ 40 ∧ ∀ j ∈ seg (pathL (seg l s n) i) (0 + ((z : Nat) : Int).toNat) ((pathL (seg l s n) i).length - ((z : Nat) : Int).toNat), 0 ≤ j ∧ j < (seg l s n).length := ⟨by omega, by omega, fun j hj => hWA' j (by rw [hsdA] at hj; exact List.mem_of_mem_drop hj)⟩
          have hrB : 0 + ((z : Nat) : Int).toNat + ((pathL (seg l s n) k).length - ((z : Nat) : Int).toNat) ≤ (pathL (seg l s n) k).length ∧ (pathL (seg l s n) k).length - ((z : Nat) : Int).toNat ≤ 40 ∧ ∀ j ∈ seg (pathL (seg l s n) k) (0 + ((z : Nat) : Int).toNat) ((pathL (seg l s n) k).length - ((z : Nat) : Int).toNat), 0 ≤ j ∧ j < (seg l s n).length := ⟨by omega, by omega, fun j hj => hWB' j (by rw [hsdB] at hj; exact List.mem_of_mem_drop hj)⟩
          have hzA : 0 ≤ ((z : Nat) : Int) ∧ ((z : Nat) : Int) ≤ (pathL (seg l s n) i).length := ⟨Int.natCast_nonneg _, Int.ofNat_le.2 hz1⟩
          have hzB : 0 ≤ ((z : Nat) : Int) ∧ ((z : Nat) : Int) ≤ (pathL (seg l s n) k).length := ⟨Int.natCast_nonneg _, Int.ofNat_le.2 hz2⟩
          rw [hds]
          by_cases c1 : oCS (alO (seg l s n) day ((pathL (seg l s n) i).drop z) s00) = 0
          rotate_left 1
          · have c1' := df_1 (b := (pathL (seg l s n) k)) c1
            rw [c1'.1]
            rw [← hsdA] at c1 c1'
            have c1 : ¬ oCS (alO (seg l s n) day (seg (pathL (seg l s n) i) (0 + ((z : Nat) : Int).toNat) ((pathL (seg l s n) i).length - ((z : Nat) : Int).toNat)) ((0, 1), 0, 1)) = 0 := c1
            (repeat' ((try dsimp only); (try (conv => whnf)); first | (with_reducible first | refine And.intro ?_ ?_ | refine WX.of ?_) | exact zc | ((with_reducible refine VC.mk ?_); exact zw) | with_reducible refine atL_0 hu ?_ | with_reducible refine atL_0 hv ?_ | ((with_reducible refine splitT_of ?_ ?_); (focus (simp only [huv, c1, Bool.not_true, Bool.not_false, decide_true, decide_false]; done))) | ((with_reducible refine splitF_of ?_ ?_); (focus (simp only [huv, c1, Bool.not_true, Bool.not_false, decide_true, decide_false]; done))) | ((with_reducible refine VC.mk ?_); exact hzA) | ((with_reducible refine VC.mk ?_); exact ⟨⟨h1, hc⟩, hrA, hd, smS_0⟩) | (with_reducible first | refine splitT ?_ | refine splitF ?_) | ((with_reducible refine splitM.mk (fun hsm => ?_) (fun hsm => ?_)) <;> (try exact zx)) | ((with_reducible refine splitB.mk (fun h => ?_) (fun h => ?_)) <;> (try simp only [zs, ne_eq] at h) <;> (try simp (disch := omega) only [w64] at h) <;> (try exact zx)) | (with_reducible intro hz; (try exact absurd hz (Nat.succ_ne_zero _)))))
            have e3 : oCS (alO (seg l s n) day (seg (pathL (seg l s n) i) (0 + ((z : Nat) : Int).toNat) ((pathL (seg l s n) i).length - ((z : Nat) : Int).toNat)) ((0, 1), 0, 1)) = 3 := c1'.2
            exact ⟨by rw [e3]; rfl⟩
          obtain ⟨v1, hv1⟩ := oCS_s c1
          by_cases c2 : oCS (alO (seg l s n) day ((pathL (seg l s n) k).drop z) s00) = 0
          rotate_left 1
          · have c2' := df_2 hv1 c2
            rw [c2'.1]
            rw [← hsdA] at c1
            rw [← hsdB] at c2 c2'
            have c1 : oCS (alO (seg l s n) day (seg (pathL (seg l s n) i) (0 + ((z : Nat) : Int).toNat) ((pathL (seg l s n) i).length - ((z : Nat) : Int).toNat)) ((0, 1), 0, 1)) = 0 := c1
            have c2 : ¬ oCS (alO (seg l s n) day (seg (pathL (seg l s n) k) (0 + ((z : Nat) : Int).toNat) ((pathL (seg l s n) k).length - ((z : Nat) : Int).toNat)) ((0, 1), 0, 1)) = 0 := c2
            (repeat' ((try dsimp only); (try (conv => whnf)); first | (with_reducible first | refine And.intro ?_ ?_ | refine WX.of ?_) | exact zc | ((with_reducible refine VC.mk ?_); exact zw) | with_reducible refine atL_0 hu ?_ | with_reducible refine atL_0 hv ?_ | ((with_reducible refine splitT_of ?_ ?_); (focus (simp only [huv, c1, c2, Bool.not_true, Bool.not_false, decide_true, decide_false]; done))) | ((with_reducible refine splitF_of ?_ ?_); (focus (simp only [huv, c1, c2, Bool.not_true, Bool.not_false, decide_true, decide_false]; done))) | ((with_reducible refine VC.mk ?_); exact hzA) | ((with_reducible refine VC.mk ?_); exact hzB) | ((with_reducible refine VC.mk ?_); exact ⟨⟨h1, hc⟩, hrA, hd, smS_0⟩) | ((with_reducible refine VC.mk ?_); exact ⟨⟨h1, hc⟩, hrB, hd, smS_0⟩) | (with_reducible first | refine splitT ?_ | refine splitF ?_) | ((with_reducible refine splitM.mk (fun hsm => ?_) (fun hsm => ?_)) <;> (try exact zx)) | ((with_reducible refine splitB.mk (fun h => ?_) (fun h => ?_)) <;> (try simp only [zs, ne_eq] at h) <;> (try simp (disch := omega) only [w64] at h) <;> (try exact zx)) | (with_reducible intro hz; (try exact absurd hz (Nat.succ_ne_zero _)))))
            have e3 : oCS (alO (seg l s n) day (seg (pathL (seg l s n) k) (0 + ((z : Nat) : Int).toNat) ((pathL (seg l s n) k).length - ((z : Nat) : Int).toNat)) ((0, 1), 0, 1)) = 3 := c2'.2
            exact ⟨by rw [e3]; rfl⟩
          obtain ⟨v2, hv2⟩ := oCS_s c2
          have w1 : alO (seg l s n) day (seg (pathL (seg l s n) i) (0 + ((z : Nat) : Int).toNat) ((pathL (seg l s n) i).length - ((z : Nat) : Int).toNat)) ((0, 1), 0, 1) = some v1 := by rw [hsdA]; exact hv1
          have w2 : alO (seg l s n) day (seg (pathL (seg l s n) k) (0 + ((z : Nat) : Int).toNat) ((pathL (seg l s n) k).length - ((z : Nat) : Int).toNat)) ((0, 1), 0, 1) = some v2 := by rw [hsdB]; exact hv2
          have k1 : oCS (alO (seg l s n) day (seg (pathL (seg l s n) i) (0 + ((z : Nat) : Int).toNat) ((pathL (seg l s n) i).length - ((z : Nat) : Int).toNat)) ((0, 1), 0, 1)) = 0 := by rw [w1]; rfl
          have k2 : oCS (alO (seg l s n) day (seg (pathL (seg l s n) k) (0 + ((z : Nat) : Int).toNat) ((pathL (seg l s n) k).length - ((z : Nat) : Int).toNat)) ((0, 1), 0, 1)) = 0 := by rw [w2]; rfl
          have y1 : smS v1 := smS_alO smS_0 hv1
          have y2 : smS v2 := smS_alO smS_0 hv2
          have x1 : zsS (alO (seg l s n) day (seg (pathL (seg l s n) i) (0 + ((z : Nat) : Int).toNat) ((pathL (seg l s n) i).length - ((z : Nat) : Int).toNat)) ((0, 1), 0, 1)) = v1 := by rw [w1]; rfl
          have x2 : zsS (alO (seg l s n) day (seg (pathL (seg l s n) k) (0 + ((z : Nat) : Int).toNat) ((pathL (seg l s n) k).length - ((z : Nat) : Int).toNat)) ((0, 1), 0, 1)) = v2 := by rw [w2]; rfl
          by_cases hz0 : z = 0
          · subst hz0
            rw [df_4 hv1 hv2, ← x1, ← x2]
            rw [← x1] at y1
            rw [← x2] at y2
            (repeat' ((try dsimp only); (try (conv => whnf)); first | (with_reducible first | refine And.intro ?_ ?_ | refine WX.of ?_) | exact zc | ((with_reducible refine VC.mk ?_); exact zw) | with_reducible refine atL_0 hu ?_ | with_reducible refine atL_0 hv ?_ | ((with_reducible refine splitT_of ?_ ?_); (focus (simp only [huv, k1, k2, Bool.not_true, Bool.not_false, decide_true, decide_false]; done))) | ((with_reducible refine splitF_of ?_ ?_); (focus (simp only [huv, k1, k2, Bool.not_true, Bool.not_false, decide_true, decide_false]; done))) | ((with_reducible refine VC.mk ?_); exact hzA) | ((with_reducible refine VC.mk ?_); exact hzB) | ((with_reducible refine VC.mk ?_); exact ⟨⟨h1, hc⟩, hrA, hd, smS_0⟩) | ((with_reducible refine VC.mk ?_); exact ⟨⟨h1, hc⟩, hrB, hd, smS_0⟩) | ((with_reducible refine VC.mk ?_); exact ⟨y1, y2⟩) | (with_reducible first | refine splitT ?_ | refine splitF ?_) | ((with_reducible refine splitM.mk (fun hsm => ?_) (fun hsm => ?_)) <;> (try exact zx)) | ((with_reducible refine splitB.mk (fun h => ?_) (fun h => ?_)) <;> (try simp only [zs, ne_eq] at h) <;> (try simp (disch := omega) only [w64] at h) <;> (try exact zx)) | (with_reducible intro hz; (try exact absurd hz (Nat.succ_ne_zero _)))))
          by_cases c3 : oCS (miO v1 v2) = 0
          rotate_left 1
          · have c3' := df_3 hv1 hv2 c3
            rw [c3'.1]
            rw [← x1, ← x2] at c3 c3'
            have c3 : ¬ oCS (miO (((zsS (alO (seg l s n) day (seg (pathL (seg l s n) i) (0 + ((z : Nat) : Int).toNat) ((pathL (seg l s n) i).length - ((z : Nat) : Int).toNat)) ((0, 1), 0, 1))).1.1, (zsS (alO (seg l s n) day (seg (pathL (seg l s n) i) (0 + ((z : Nat) : Int).toNat) ((pathL (seg l s n) i).length - ((z : Nat) : Int).toNat)) ((0, 1), 0, 1))).1.2), (zsS (alO (seg l s n) day (seg (pathL (seg l s n) i) (0 + ((z : Nat) : Int).toNat) ((pathL (seg l s n) i).length - ((z : Nat) : Int).toNat)) ((0, 1), 0, 1))).2.1, (zsS (alO (seg l s n) day (seg (pathL (seg l s n) i) (0 + ((z : Nat) : Int).toNat) ((pathL (seg l s n) i).length - ((z : Nat) : Int).toNat)) ((0, 1), 0, 1))).2.2) (((zsS (alO (seg l s n) day (seg (pathL (seg l s n) k) (0 + ((z : Nat) : Int).toNat) ((pathL (seg l s n) k).length - ((z : Nat) : Int).toNat)) ((0, 1), 0, 1))).1.1, (zsS (alO (seg l s n) day (seg (pathL (seg l s n) k) (0 + ((z : Nat) : Int).toNat) ((pathL (seg l s n) k).length - ((z : Nat) : Int).toNat)) ((0, 1), 0, 1))).1.2), (zsS (alO (seg l s n) day (seg (pathL (seg l s n) k) (0 + ((z : Nat) : Int).toNat) ((pathL (seg l s n) k).length - ((z : Nat) : Int).toNat)) ((0, 1), 0, 1))).2.1, (zsS (alO (seg l s n) day (seg (pathL (seg l s n) k) (0 + ((z : Nat) : Int).toNat) ((pathL (seg l s n) k).length - ((z : Nat) : Int).toNat)) ((0, 1), 0, 1))).2.2)) = 0 := c3
            rw [← x1] at y1
            rw [← x2] at y2
            (repeat' ((try dsimp only); (try (conv => whnf)); first | (with_reducible first | refine And.intro ?_ ?_ | refine WX.of ?_) | exact zc | ((with_reducible refine VC.mk ?_); exact zw) | with_reducible refine atL_0 hu ?_ | with_reducible refine atL_0 hv ?_ | ((with_reducible refine splitT_of ?_ ?_); (focus (simp only [huv, k1, k2, c3, Bool.not_true, Bool.not_false, decide_true, decide_false]; done))) | ((with_reducible refine splitF_of ?_ ?_); (focus (simp only [huv, k1, k2, c3, Bool.not_true, Bool.not_false, decide_true, decide_false]; done))) | ((with_reducible refine VC.mk ?_); exact hzA) | ((with_reducible refine VC.mk ?_); exact hzB) | ((with_reducible refine VC.mk ?_); exact ⟨⟨h1, hc⟩, hrA, hd, smS_0⟩) | ((with_reducible refine VC.mk ?_); exact ⟨⟨h1, hc⟩, hrB, hd, smS_0⟩) | ((with_reducible refine VC.mk ?_); exact ⟨y1, y2⟩) | (with_reducible first | refine splitT ?_ | refine splitF ?_) | ((with_reducible refine splitM.mk (fun hsm => ?_) (fun hsm => ?_)) <;> (try exact zx)) | ((with_reducible refine splitB.mk (fun h => ?_) (fun h => ?_)) <;> (try simp only [zs, ne_eq] at h) <;> (try simp (disch := omega) only [w64] at h) <;> (try exact zx)) | (with_reducible intro hz; (try exact absurd hz (Nat.succ_ne_zero _)))))
            all_goals exact ⟨by rw [oCS_n c3]⟩
          obtain ⟨d, hd3⟩ := oCS_s c3
          have y3 : smS d := smS_miO hd3
          obtain ⟨g, hg1⟩ := get_some (l := (pathL (seg l s n) i)) (i := z - 1) (by omega)
          have hgr := path_mem hc hi0.2 g (List.mem_of_getElem? hg1)
          have hgr1 : 0 ≤ g ∧ g < (seg l s n).length := by omega
          have hgr2 := ir_n hgr1 hL
          obtain ⟨⟨nm1, fr1, ⟨⟨p1, q1⟩, p1', q1'⟩, ⟨dp1, dq1⟩, md1, gd1⟩, hga1, hgst, hgo1⟩ := ch_z hc hgr1
          have hgdr := smF_ok hgo1.dr
          dsimp only at hgdr
          have hda := dB hc hd hWA' z
          have hdb := dB hc hd hWB' z
          have hmx := mx_ok hda hdb
          have hab : -9223372036854775808 < nxD (seg l s n) day ((pathL (seg l s n) i).drop z) - nxD (seg l s n) day ((pathL (seg l s n) k).drop z) ∧ nxD (seg l s n) day ((pathL (seg l s n) i).drop z) - nxD (seg l s n) day ((pathL (seg l s n) k).drop z) < 9223372036854775808 := by omega
          rw [df_5 hv1 hv2 hd3 hz0, hg1]
          dsimp only [Option.getD_some]
          rw [hgst]
          have x3 : zsS (miO (zsS (alO (seg l s n) day (seg (pathL (seg l s n) i) (0 + ((z : Nat) : Int).toNat) ((pathL (seg l s n) i).length - ((z : Nat) : Int).toNat)) ((0, 1), 0, 1))) (zsS (alO (seg l s n) day (seg (pathL (seg l s n) k) (0 + ((z : Nat) : Int).toNat) ((pathL (seg l s n) k).length - ((z : Nat) : Int).toNat)) ((0, 1), 0, 1)))) = d := by rw [x1, x2, hd3]; rfl
          rw [← x1, ← x2] at c3
          have c3 : oCS (miO (((zsS (alO (seg l s n) day (seg (pathL (seg l s n) i) (0 + ((z : Nat) : Int).toNat) ((pathL (seg l s n) i).length - ((z : Nat) : Int).toNat)) ((0, 1), 0, 1))).1.1, (zsS (alO (seg l s n) day (seg (pathL (seg l s n) i) (0 + ((z : Nat) : Int).toNat) ((pathL (seg l s n) i).length - ((z : Nat) : Int).toNat)) ((0, 1), 0, 1))).1.2), (zsS (alO (seg l s n) day (seg (pathL (seg l s n) i) (0 + ((z : Nat) : Int).toNat) ((pathL (seg l s n) i).length - ((z : Nat) : Int).toNat)) ((0, 1), 0, 1))).2.1, (zsS (alO (seg l s n) day (seg (pathL (seg l s n) i) (0 + ((z : Nat) : Int).toNat) ((pathL (seg l s n) i).length - ((z : Nat) : Int).toNat)) ((0, 1), 0, 1))).2.2) (((zsS (alO (seg l s n) day (seg (pathL (seg l s n) k) (0 + ((z : Nat) : Int).toNat) ((pathL (seg l s n) k).length - ((z : Nat) : Int).toNat)) ((0, 1), 0, 1))).1.1, (zsS (alO (seg l s n) day (seg (pathL (seg l s n) k) (0 + ((z : Nat) : Int).toNat) ((pathL (seg l s n) k).length - ((z : Nat) : Int).toNat)) ((0, 1), 0, 1))).1.2), (zsS (alO (seg l s n) day (seg (pathL (seg l s n) k) (0 + ((z : Nat) : Int).toNat) ((pathL (seg l s n) k).length - ((z : Nat) : Int).toNat)) ((0, 1), 0, 1))).2.1, (zsS (alO (seg l s n) day (seg (pathL (seg l s n) k) (0 + ((z : Nat) : Int).toNat) ((pathL (seg l s n) k).length - ((z : Nat) : Int).toNat)) ((0, 1), 0, 1))).2.2)) = 0 := c3
          rw [← x3] at y3 ⊢
          rw [← x1] at y1
          rw [← x2] at y2
          (repeat' ((try dsimp only); (try (conv => whnf)); first | (with_reducible first | refine And.intro ?_ ?_ | refine WX.of ?_) | exact zc | ((with_reducible refine VC.mk ?_); exact zw) | with_reducible refine atL_0 hu ?_ | with_reducible refine atL_0 hv ?_ | with_reducible refine atL_e (j := z - 1) (by simp (disch := omega) only [w64]; omega) hg1 ?_ | with_reducible refine atL_p (seg_get hga1).1 ?_ | ((with_reducible refine splitT_of ?_ ?_); (focus (simp only [huv, k1, k2, c3, hz0, Int.natCast_eq_zero, Bool.not_true, Bool.not_false, decide_true, decide_false]; done))) | ((with_reducible refine splitF_of ?_ ?_); (focus (simp only [huv, k1, k2, c3, hz0, Int.natCast_eq_zero, Bool.not_true, Bool.not_false, decide_true, decide_false]; done))) | ((with_reducible refine VC.mk ?_); exact hzA) | ((with_reducible refine VC.mk ?_); exact hzB) | ((with_reducible refine VC.mk ?_); exact ⟨⟨h1, hc⟩, hrA, hd, smS_0⟩) | ((with_reducible refine VC.mk ?_); exact ⟨⟨h1, hc⟩, hrB, hd, smS_0⟩) | ((with_reducible refine VC.mk ?_); exact ⟨y1, y2⟩) | ((with_reducible refine VC.mk ?_); exact ⟨⟨h1, hc⟩, hrA⟩) | ((with_reducible refine VC.mk ?_); exact ⟨⟨h1, hc⟩, hrB⟩) | ((with_reducible refine VC.mk ?_); exact hgr2) | ((with_reducible refine VC.mk ?_); exact (by rw [hsdA, hsdB, hmx.1]; exact hab)) | ((with_reducible refine VC.mk ?_); exact ⟨y3, hgdr, by rw [hsdA, hsdB, hmx.1]; exact hmx.2.2.2.2⟩) | (with_reducible first | refine splitT ?_ | refine splitF ?_) | ((with_reducible refine splitM.mk (fun hsm => ?_) (fun hsm => ?_)) <;> (try exact zx)) | ((with_reducible refine splitB.mk (fun h => ?_) (fun h => ?_)) <;> (try simp only [zs, ne_eq] at h) <;> (try simp (disch := omega) only [w64] at h) <;> (try exact zx)) | (with_reducible intro hz; (try exact absurd hz (Nat.succ_ne_zero _)))))
          all_goals exact ⟨by rw [hsdA, hsdB, hmx.1]; rfl⟩
      · rcases Nat.lt_or_ge z (pathL (seg l s n) i).length with hlt | hge
        · obtain ⟨u, hu⟩ := get_some (l := (pathL (seg l s n) i)) (i := z) hlt
          have hst2 := cp_end (a := (pathL (seg l s n) i)) (b := (pathL (seg l s n) k)) (n := z) (.inr (by omega))
          rw [hst2, Nat.add_zero] at hz
          have hds : dfO (seg l s n) i k day = dfN (seg l s n) day (pathL (seg l s n) i) (pathL (seg l s n) k) z := by unfold dfO; rw [hz]
          have hzB' : z = (pathL (seg l s n) k).length := by omega
          have hzn : ((z : Nat) : Int).toNat = z := Int.toNat_natCast z
          have hsdA := sd_A (W := (pathL (seg l s n) i)) hzn
          have hsdB := sd_A (W := (pathL (seg l s n) k)) hzn
          have hrA : 0 + ((z : Nat) : Int).toNat + ((pathL (seg l s n) i).length - ((z : Nat) : Int).toNat) ≤ (pathL (seg l s n) i).length ∧ (pathL (seg l s n) i).length - ((z : Nat) : Int).toNat ≤ 40 ∧ ∀ j ∈ seg (pathL (seg l s n) i) (0 + ((z : Nat) : Int).toNat) ((pathL (seg l s n) i).length - ((z : Nat) : Int).toNat), 0 ≤ j ∧ j < (seg l s n).length := ⟨by omega, by omega, fun j hj => hWA' j (by rw [hsdA] at hj; exact List.mem_of_mem_drop hj)⟩
          have hrB : 0 + ((z : Nat) : Int).toNat + ((pathL (seg l s n) k).length - ((z : Nat) : Int).toNat) ≤ (pathL (seg l s n) k).length ∧ (pathL (seg l s n) k).length - ((z : Nat) : Int).toNat ≤ 40 ∧ ∀ j ∈ seg (pathL (seg l s n) k) (0 + ((z : Nat) : Int).toNat) ((pathL (seg l s n) k).length - ((z : Nat) : Int).toNat), 0 ≤ j ∧ j < (seg l s n).length := ⟨by omega, by omega, fun j hj => hWB' j (by rw [hsdB] at hj; exact List.mem_of_mem_drop hj)⟩
          have hzA : 0 ≤ ((z : Nat) : Int) ∧ ((z : Nat) : Int) ≤ (pathL (seg l s n) i).length := ⟨Int.natCast_nonneg _, Int.ofNat_le.2 hz1⟩
          have hzB : 0 ≤ ((z : Nat) : Int) ∧ ((z : Nat) : Int) ≤ (pathL (seg l s n) k).length := ⟨Int.natCast_nonneg _, Int.ofNat_le.2 hz2⟩
          rw [hds]
          by_cases c1 : oCS (alO (seg l s n) day ((pathL (seg l s n) i).drop z) s00) = 0
          rotate_left 1
          · have c1' := df_1 (b := (pathL (seg l s n) k)) c1
            rw [c1'.1]
            rw [← hsdA] at c1 c1'
            have c1 : ¬ oCS (alO (seg l s n) day (seg (pathL (seg l s n) i) (0 + ((z : Nat) : Int).toNat) ((pathL (seg l s n) i).length - ((z : Nat) : Int).toNat)) ((0, 1), 0, 1)) = 0 := c1
            (repeat' ((try dsimp only); (try (conv => whnf)); first | (with_reducible first | refine And.intro ?_ ?_ | refine WX.of ?_) | exact zc | ((with_reducible refine VC.mk ?_); exact zw) | ((with_reducible refine splitT_of ?_ ?_); (focus (simp only [c1, Bool.not_true, Bool.not_false, decide_true, decide_false]; done))) | ((with_reducible refine splitF_of ?_ ?_); (focus (simp only [c1, Bool.not_true, Bool.not_false, decide_true, decide_false]; done))) | ((with_reducible refine VC.mk ?_); exact hzA) | ((with_reducible refine VC.mk ?_); exact ⟨⟨h1, hc⟩, hrA, hd, smS_0⟩) | (with_reducible first | refine splitT ?_ | refine splitF ?_) | ((with_reducible refine splitM.mk (fun hsm => ?_) (fun hsm => ?_)) <;> (try exact zx)) | ((with_reducible refine splitB.mk (fun h => ?_) (fun h => ?_)) <;> (try simp only [zs, ne_eq] at h) <;> (try simp (disch := omega) only [w64] at h) <;> (try exact zx)) | (with_reducible intro hz; (try exact absurd hz (Nat.succ_ne_zero _)))))
            have e3 : oCS (alO (seg l s n) day (seg (pathL (seg l s n) i) (0 + ((z : Nat) : Int).toNat) ((pathL (seg l s n) i).length - ((z : Nat) : Int).toNat)) ((0, 1), 0, 1)) = 3 := c1'.2
            exact ⟨by rw [e3]; rfl⟩
          obtain ⟨v1, hv1⟩ := oCS_s c1
          by_cases c2 : oCS (alO (seg l s n) day ((pathL (seg l s n) k).drop z) s00) = 0
          rotate_left 1
          · have c2' := df_2 hv1 c2
            rw [c2'.1]
            rw [← hsdA] at c1
            rw [← hsdB] at c2 c2'
            have c1 : oCS (alO (seg l s n) day (seg (pathL (seg l s n) i) (0 + ((z : Nat) : Int).toNat) ((pathL (seg l s n) i).length - ((z : Nat) : Int).toNat)) ((0, 1), 0, 1)) = 0 := c1
            have c2 : ¬ oCS (alO (seg l s n) day (seg (pathL (seg l s n) k) (0 + ((z : Nat) : Int).toNat) ((pathL (seg l s n) k).length - ((z : Nat) : Int).toNat)) ((0, 1), 0, 1)) = 0 := c2
            (repeat' ((try dsimp only); (try (conv => whnf)); first | (with_reducible first | refine And.intro ?_ ?_ | refine WX.of ?_) | exact zc | ((with_reducible refine VC.mk ?_); exact zw) | ((with_reducible refine splitT_of ?_ ?_); (focus (simp only [c1, c2, Bool.not_true, Bool.not_false, decide_true, decide_false]; done))) | ((with_reducible refine splitF_of ?_ ?_); (focus (simp only [c1, c2, Bool.not_true, Bool.not_false, decide_true, decide_false]; done))) | ((with_reducible refine VC.mk ?_); exact hzA) | ((with_reducible refine VC.mk ?_); exact hzB) | ((with_reducible refine VC.mk ?_); exact ⟨⟨h1, hc⟩, hrA, hd, smS_0⟩) | ((with_reducible refine VC.mk ?_); exact ⟨⟨h1, hc⟩, hrB, hd, smS_0⟩) | (with_reducible first | refine splitT ?_ | refine splitF ?_) | ((with_reducible refine splitM.mk (fun hsm => ?_) (fun hsm => ?_)) <;> (try exact zx)) | ((with_reducible refine splitB.mk (fun h => ?_) (fun h => ?_)) <;> (try simp only [zs, ne_eq] at h) <;> (try simp (disch := omega) only [w64] at h) <;> (try exact zx)) | (with_reducible intro hz; (try exact absurd hz (Nat.succ_ne_zero _)))))
            have e3 : oCS (alO (seg l s n) day (seg (pathL (seg l s n) k) (0 + ((z : Nat) : Int).toNat) ((pathL (seg l s n) k).length - ((z : Nat) : Int).toNat)) ((0, 1), 0, 1)) = 3 := c2'.2
            exact ⟨by rw [e3]; rfl⟩
          obtain ⟨v2, hv2⟩ := oCS_s c2
          have w1 : alO (seg l s n) day (seg (pathL (seg l s n) i) (0 + ((z : Nat) : Int).toNat) ((pathL (seg l s n) i).length - ((z : Nat) : Int).toNat)) ((0, 1), 0, 1) = some v1 := by rw [hsdA]; exact hv1
          have w2 : alO (seg l s n) day (seg (pathL (seg l s n) k) (0 + ((z : Nat) : Int).toNat) ((pathL (seg l s n) k).length - ((z : Nat) : Int).toNat)) ((0, 1), 0, 1) = some v2 := by rw [hsdB]; exact hv2
          have k1 : oCS (alO (seg l s n) day (seg (pathL (seg l s n) i) (0 + ((z : Nat) : Int).toNat) ((pathL (seg l s n) i).length - ((z : Nat) : Int).toNat)) ((0, 1), 0, 1)) = 0 := by rw [w1]; rfl
          have k2 : oCS (alO (seg l s n) day (seg (pathL (seg l s n) k) (0 + ((z : Nat) : Int).toNat) ((pathL (seg l s n) k).length - ((z : Nat) : Int).toNat)) ((0, 1), 0, 1)) = 0 := by rw [w2]; rfl
          have y1 : smS v1 := smS_alO smS_0 hv1
          have y2 : smS v2 := smS_alO smS_0 hv2
          have x1 : zsS (alO (seg l s n) day (seg (pathL (seg l s n) i) (0 + ((z : Nat) : Int).toNat) ((pathL (seg l s n) i).length - ((z : Nat) : Int).toNat)) ((0, 1), 0, 1)) = v1 := by rw [w1]; rfl
          have x2 : zsS (alO (seg l s n) day (seg (pathL (seg l s n) k) (0 + ((z : Nat) : Int).toNat) ((pathL (seg l s n) k).length - ((z : Nat) : Int).toNat)) ((0, 1), 0, 1)) = v2 := by rw [w2]; rfl
          by_cases hz0 : z = 0
          · subst hz0
            rw [df_4 hv1 hv2, ← x1, ← x2]
            rw [← x1] at y1
            rw [← x2] at y2
            (repeat' ((try dsimp only); (try (conv => whnf)); first | (with_reducible first | refine And.intro ?_ ?_ | refine WX.of ?_) | exact zc | ((with_reducible refine VC.mk ?_); exact zw) | ((with_reducible refine splitT_of ?_ ?_); (focus (simp only [k1, k2, Bool.not_true, Bool.not_false, decide_true, decide_false]; done))) | ((with_reducible refine splitF_of ?_ ?_); (focus (simp only [k1, k2, Bool.not_true, Bool.not_false, decide_true, decide_false]; done))) | ((with_reducible refine VC.mk ?_); exact hzA) | ((with_reducible refine VC.mk ?_); exact hzB) | ((with_reducible refine VC.mk ?_); exact ⟨⟨h1, hc⟩, hrA, hd, smS_0⟩) | ((with_reducible refine VC.mk ?_); exact ⟨⟨h1, hc⟩, hrB, hd, smS_0⟩) | ((with_reducible refine VC.mk ?_); exact ⟨y1, y2⟩) | (with_reducible first | refine splitT ?_ | refine splitF ?_) | ((with_reducible refine splitM.mk (fun hsm => ?_) (fun hsm => ?_)) <;> (try exact zx)) | ((with_reducible refine splitB.mk (fun h => ?_) (fun h => ?_)) <;> (try simp only [zs, ne_eq] at h) <;> (try simp (disch := omega) only [w64] at h) <;> (try exact zx)) | (with_reducible intro hz; (try exact absurd hz (Nat.succ_ne_zero _)))))
          by_cases c3 : oCS (miO v1 v2) = 0
          rotate_left 1
          · have c3' := df_3 hv1 hv2 c3
            rw [c3'.1]
            rw [← x1, ← x2] at c3 c3'
            have c3 : ¬ oCS (miO (((zsS (alO (seg l s n) day (seg (pathL (seg l s n) i) (0 + ((z : Nat) : Int).toNat) ((pathL (seg l s n) i).length - ((z : Nat) : Int).toNat)) ((0, 1), 0, 1))).1.1, (zsS (alO (seg l s n) day (seg (pathL (seg l s n) i) (0 + ((z : Nat) : Int).toNat) ((pathL (seg l s n) i).length - ((z : Nat) : Int).toNat)) ((0, 1), 0, 1))).1.2), (zsS (alO (seg l s n) day (seg (pathL (seg l s n) i) (0 + ((z : Nat) : Int).toNat) ((pathL (seg l s n) i).length - ((z : Nat) : Int).toNat)) ((0, 1), 0, 1))).2.1, (zsS (alO (seg l s n) day (seg (pathL (seg l s n) i) (0 + ((z : Nat) : Int).toNat) ((pathL (seg l s n) i).length - ((z : Nat) : Int).toNat)) ((0, 1), 0, 1))).2.2) (((zsS (alO (seg l s n) day (seg (pathL (seg l s n) k) (0 + ((z : Nat) : Int).toNat) ((pathL (seg l s n) k).length - ((z : Nat) : Int).toNat)) ((0, 1), 0, 1))).1.1, (zsS (alO (seg l s n) day (seg (pathL (seg l s n) k) (0 + ((z : Nat) : Int).toNat) ((pathL (seg l s n) k).length - ((z : Nat) : Int).toNat)) ((0, 1), 0, 1))).1.2), (zsS (alO (seg l s n) day (seg (pathL (seg l s n) k) (0 + ((z : Nat) : Int).toNat) ((pathL (seg l s n) k).length - ((z : Nat) : Int).toNat)) ((0, 1), 0, 1))).2.1, (zsS (alO (seg l s n) day (seg (pathL (seg l s n) k) (0 + ((z : Nat) : Int).toNat) ((pathL (seg l s n) k).length - ((z : Nat) : Int).toNat)) ((0, 1), 0, 1))).2.2)) = 0 := c3
            rw [← x1] at y1
            rw [← x2] at y2
            (repeat' ((try dsimp only); (try (conv => whnf)); first | (with_reducible first | refine And.intro ?_ ?_ | refine WX.of ?_) | exact zc | ((with_reducible refine VC.mk ?_); exact zw) | ((with_reducible refine splitT_of ?_ ?_); (focus (simp only [k1, k2, c3, Bool.not_true, Bool.not_false, decide_true, decide_false]; done))) | ((with_reducible refine splitF_of ?_ ?_); (focus (simp only [k1, k2, c3, Bool.not_true, Bool.not_false, decide_true, decide_false]; done))) | ((with_reducible refine VC.mk ?_); exact hzA) | ((with_reducible refine VC.mk ?_); exact hzB) | ((with_reducible refine VC.mk ?_); exact ⟨⟨h1, hc⟩, hrA, hd, smS_0⟩) | ((with_reducible refine VC.mk ?_); exact ⟨⟨h1, hc⟩, hrB, hd, smS_0⟩) | ((with_reducible refine VC.mk ?_); exact ⟨y1, y2⟩) | (with_reducible first | refine splitT ?_ | refine splitF ?_) | ((with_reducible refine splitM.mk (fun hsm => ?_) (fun hsm => ?_)) <;> (try exact zx)) | ((with_reducible refine splitB.mk (fun h => ?_) (fun h => ?_)) <;> (try simp only [zs, ne_eq] at h) <;> (try simp (disch := omega) only [w64] at h) <;> (try exact zx)) | (with_reducible intro hz; (try exact absurd hz (Nat.succ_ne_zero _)))))
            all_goals exact ⟨by rw [oCS_n c3]⟩
          obtain ⟨d, hd3⟩ := oCS_s c3
          have y3 : smS d := smS_miO hd3
          obtain ⟨g, hg1⟩ := get_some (l := (pathL (seg l s n) i)) (i := z - 1) (by omega)
          have hgr := path_mem hc hi0.2 g (List.mem_of_getElem? hg1)
          have hgr1 : 0 ≤ g ∧ g < (seg l s n).length := by omega
          have hgr2 := ir_n hgr1 hL
          obtain ⟨⟨nm1, fr1, ⟨⟨p1, q1⟩, p1', q1'⟩, ⟨dp1, dq1⟩, md1, gd1⟩, hga1, hgst, hgo1⟩ := ch_z hc hgr1
          have hgdr := smF_ok hgo1.dr
          dsimp only at hgdr
          have hda := dB hc hd hWA' z
          have hdb := dB hc hd hWB' z
          have hmx := mx_ok hda hdb
          have hab : -9223372036854775808 < nxD (seg l s n) day ((pathL (seg l s n) i).drop z) - nxD (seg l s n) day ((pathL (seg l s n) k).drop z) ∧ nxD (seg l s n) day ((pathL (seg l s n) i).drop z) - nxD (seg l s n) day ((pathL (seg l s n) k).drop z) < 9223372036854775808 := by omega
          rw [df_5 hv1 hv2 hd3 hz0, hg1]
          dsimp only [Option.getD_some]
          rw [hgst]
          have x3 : zsS (miO (zsS (alO (seg l s n) day (seg (pathL (seg l s n) i) (0 + ((z : Nat) : Int).toNat) ((pathL (seg l s n) i).length - ((z : Nat) : Int).toNat)) ((0, 1), 0, 1))) (zsS (alO (seg l s n) day (seg (pathL (seg l s n) k) (0 + ((z : Nat) : Int).toNat) ((pathL (seg l s n) k).length - ((z : Nat) : Int).toNat)) ((0, 1), 0, 1)))) = d := by rw [x1, x2, hd3]; rfl
          rw [← x1, ← x2] at c3
          have c3 : oCS (miO (((zsS (alO (seg l s n) day (seg (pathL (seg l s n) i) (0 + ((z : Nat) : Int).toNat) ((pathL (seg l s n) i).length - ((z : Nat) : Int).toNat)) ((0, 1), 0, 1))).1.1, (zsS (alO (seg l s n) day (seg (pathL (seg l s n) i) (0 + ((z : Nat) : Int).toNat) ((pathL (seg l s n) i).length - ((z : Nat) : Int).toNat)) ((0, 1), 0, 1))).1.2), (zsS (alO (seg l s n) day (seg (pathL (seg l s n) i) (0 + ((z : Nat) : Int).toNat) ((pathL (seg l s n) i).length - ((z : Nat) : Int).toNat)) ((0, 1), 0, 1))).2.1, (zsS (alO (seg l s n) day (seg (pathL (seg l s n) i) (0 + ((z : Nat) : Int).toNat) ((pathL (seg l s n) i).length - ((z : Nat) : Int).toNat)) ((0, 1), 0, 1))).2.2) (((zsS (alO (seg l s n) day (seg (pathL (seg l s n) k) (0 + ((z : Nat) : Int).toNat) ((pathL (seg l s n) k).length - ((z : Nat) : Int).toNat)) ((0, 1), 0, 1))).1.1, (zsS (alO (seg l s n) day (seg (pathL (seg l s n) k) (0 + ((z : Nat) : Int).toNat) ((pathL (seg l s n) k).length - ((z : Nat) : Int).toNat)) ((0, 1), 0, 1))).1.2), (zsS (alO (seg l s n) day (seg (pathL (seg l s n) k) (0 + ((z : Nat) : Int).toNat) ((pathL (seg l s n) k).length - ((z : Nat) : Int).toNat)) ((0, 1), 0, 1))).2.1, (zsS (alO (seg l s n) day (seg (pathL (seg l s n) k) (0 + ((z : Nat) : Int).toNat) ((pathL (seg l s n) k).length - ((z : Nat) : Int).toNat)) ((0, 1), 0, 1))).2.2)) = 0 := c3
          rw [← x3] at y3 ⊢
          rw [← x1] at y1
          rw [← x2] at y2
          (repeat' ((try dsimp only); (try (conv => whnf)); first | (with_reducible first | refine And.intro ?_ ?_ | refine WX.of ?_) | exact zc | ((with_reducible refine VC.mk ?_); exact zw) | with_reducible refine atL_e (j := z - 1) (by simp (disch := omega) only [w64]; omega) hg1 ?_ | with_reducible refine atL_p (seg_get hga1).1 ?_ | ((with_reducible refine splitT_of ?_ ?_); (focus (simp only [k1, k2, c3, hz0, Int.natCast_eq_zero, Bool.not_true, Bool.not_false, decide_true, decide_false]; done))) | ((with_reducible refine splitF_of ?_ ?_); (focus (simp only [k1, k2, c3, hz0, Int.natCast_eq_zero, Bool.not_true, Bool.not_false, decide_true, decide_false]; done))) | ((with_reducible refine VC.mk ?_); exact hzA) | ((with_reducible refine VC.mk ?_); exact hzB) | ((with_reducible refine VC.mk ?_); exact ⟨⟨h1, hc⟩, hrA, hd, smS_0⟩) | ((with_reducible refine VC.mk ?_); exact ⟨⟨h1, hc⟩, hrB, hd, smS_0⟩) | ((with_reducible refine VC.mk ?_); exact ⟨y1, y2⟩) | ((with_reducible refine VC.mk ?_); exact ⟨⟨h1, hc⟩, hrA⟩) | ((with_reducible refine VC.mk ?_); exact ⟨⟨h1, hc⟩, hrB⟩) | ((with_reducible refine VC.mk ?_); exact hgr2) | ((with_reducible refine VC.mk ?_); exact (by rw [hsdA, hsdB, hmx.1]; exact hab)) | ((with_reducible refine VC.mk ?_); exact ⟨y3, hgdr, by rw [hsdA, hsdB, hmx.1]; exact hmx.2.2.2.2⟩) | (with_reducible first | refine splitT ?_ | refine splitF ?_) | ((with_reducible refine splitM.mk (fun hsm => ?_) (fun hsm => ?_)) <;> (try exact zx)) | ((with_reducible refine splitB.mk (fun h => ?_) (fun h => ?_)) <;> (try simp only [zs, ne_eq] at h) <;> (try simp (disch := omega) only [w64] at h) <;> (try exact zx)) | (with_reducible intro hz; (try exact absurd hz (Nat.succ_ne_zero _)))))
          all_goals exact ⟨by rw [hsdA, hsdB, hmx.1]; rfl⟩
        · have hst2 := cp_end (a := (pathL (seg l s n) i)) (b := (pathL (seg l s n) k)) (n := z) (.inl (by omega))
          rw [hst2, Nat.add_zero] at hz
          have hds : dfO (seg l s n) i k day = dfN (seg l s n) day (pathL (seg l s n) i) (pathL (seg l s n) k) z := by unfold dfO; rw [hz]
          have hzA' : z = (pathL (seg l s n) i).length := by omega
          have hzn : ((z : Nat) : Int).toNat = z := Int.toNat_natCast z
          have hsdA := sd_A (W := (pathL (seg l s n) i)) hzn
          have hsdB := sd_A (W := (pathL (seg l s n) k)) hzn
          have hrA : 0 + ((z : Nat) : Int).toNat + ((pathL (seg l s n) i).length - ((z : Nat) : Int).toNat) ≤ (pathL (seg l s n) i).length ∧ (pathL (seg l s n) i).length - ((z : Nat) : Int).toNat ≤ 40 ∧ ∀ j ∈ seg (pathL (seg l s n) i) (0 + ((z : Nat) : Int).toNat) ((pathL (seg l s n) i).length - ((z : Nat) : Int).toNat), 0 ≤ j ∧ j < (seg l s n).length := ⟨by omega, by omega, fun j hj => hWA' j (by rw [hsdA] at hj; exact List.mem_of_mem_drop hj)⟩
          have hrB : 0 + ((z : Nat) : Int).toNat + ((pathL (seg l s n) k).length - ((z : Nat) : Int).toNat) ≤ (pathL (seg l s n) k).length ∧ (pathL (seg l s n) k).length - ((z : Nat) : Int).toNat ≤ 40 ∧ ∀ j ∈ seg (pathL (seg l s n) k) (0 + ((z : Nat) : Int).toNat) ((pathL (seg l s n) k).length - ((z : Nat) : Int).toNat), 0 ≤ j ∧ j < (seg l s n).length := ⟨by omega, by omega, fun j hj => hWB' j (by rw [hsdB] at hj; exact List.mem_of_mem_drop hj)⟩
          have hzA : 0 ≤ ((z : Nat) : Int) ∧ ((z : Nat) : Int) ≤ (pathL (seg l s n) i).length := ⟨Int.natCast_nonneg _, Int.ofNat_le.2 hz1⟩
          have hzB : 0 ≤ ((z : Nat) : Int) ∧ ((z : Nat) : Int) ≤ (pathL (seg l s n) k).length := ⟨Int.natCast_nonneg _, Int.ofNat_le.2 hz2⟩
          rw [hds]
          by_cases c1 : oCS (alO (seg l s n) day ((pathL (seg l s n) i).drop z) s00) = 0
          rotate_left 1
          · have c1' := df_1 (b := (pathL (seg l s n) k)) c1
            rw [c1'.1]
            rw [← hsdA] at c1 c1'
            have c1 : ¬ oCS (alO (seg l s n) day (seg (pathL (seg l s n) i) (0 + ((z : Nat) : Int).toNat) ((pathL (seg l s n) i).length - ((z : Nat) : Int).toNat)) ((0, 1), 0, 1)) = 0 := c1
            (repeat' ((try dsimp only); (try (conv => whnf)); first | (with_reducible first | refine And.intro ?_ ?_ | refine WX.of ?_) | exact zc | ((with_reducible refine VC.mk ?_); exact zw) | ((with_reducible refine splitT_of ?_ ?_); (focus (simp only [c1, Bool.not_true, Bool.not_false, decide_true, decide_false]; done))) | ((with_reducible refine splitF_of ?_ ?_); (focus (simp only [c1, Bool.not_true, Bool.not_false, decide_true, decide_false]; done))) | ((with_reducible refine VC.mk ?_); exact hzA) | ((with_reducible refine VC.mk ?_); exact ⟨⟨h1, hc⟩, hrA, hd, smS_0⟩) | (with_reducible first | refine splitT ?_ | refine splitF ?_) | ((with_reducible refine splitM.mk (fun hsm => ?_) (fun hsm => ?_)) <;> (try exact zx)) | ((with_reducible refine splitB.mk (fun h => ?_) (fun h => ?_)) <;> (try simp only [zs, ne_eq] at h) <;> (try simp (disch := omega) only [w64] at h) <;> (try exact zx)) | (with_reducible intro hz; (try exact absurd hz (Nat.succ_ne_zero _)))))
            have e3 : oCS (alO (seg l s n) day (seg (pathL (seg l s n) i) (0 + ((z : Nat) : Int).toNat) ((pathL (seg l s n) i).length - ((z : Nat) : Int).toNat)) ((0, 1), 0, 1)) = 3 := c1'.2
            exact ⟨by rw [e3]; rfl⟩
          obtain ⟨v1, hv1⟩ := oCS_s c1
          by_cases c2 : oCS (alO (seg l s n) day ((pathL (seg l s n) k).drop z) s00) = 0
          rotate_left 1
          · have c2' := df_2 hv1 c2
            rw [c2'.1]
            rw [← hsdA] at c1
            rw [← hsdB] at c2 c2'
            have c1 : oCS (alO (seg l s n) day (seg (pathL (seg l s n) i) (0 + ((z : Nat) : Int).toNat) ((pathL (seg l s n) i).length - ((z : Nat) : Int).toNat)) ((0, 1), 0, 1)) = 0 := c1
            have c2 : ¬ oCS (alO (seg l s n) day (seg (pathL (seg l s n) k) (0 + ((z : Nat) : Int).toNat) ((pathL (seg l s n) k).length - ((z : Nat) : Int).toNat)) ((0, 1), 0, 1)) = 0 := c2
            (repeat' ((try dsimp only); (try (conv => whnf)); first | (with_reducible first | refine And.intro ?_ ?_ | refine WX.of ?_) | exact zc | ((with_reducible refine VC.mk ?_); exact zw) | ((with_reducible refine splitT_of ?_ ?_); (focus (simp only [c1, c2, Bool.not_true, Bool.not_false, decide_true, decide_false]; done))) | ((with_reducible refine splitF_of ?_ ?_); (focus (simp only [c1, c2, Bool.not_true, Bool.not_false, decide_true, decide_false]; done))) | ((with_reducible refine VC.mk ?_); exact hzA) | ((with_reducible refine VC.mk ?_); exact hzB) | ((with_reducible refine VC.mk ?_); exact ⟨⟨h1, hc⟩, hrA, hd, smS_0⟩) | ((with_reducible refine VC.mk ?_); exact ⟨⟨h1, hc⟩, hrB, hd, smS_0⟩) | (with_reducible first | refine splitT ?_ | refine splitF ?_) | ((with_reducible refine splitM.mk (fun hsm => ?_) (fun hsm => ?_)) <;> (try exact zx)) | ((with_reducible refine splitB.mk (fun h => ?_) (fun h => ?_)) <;> (try simp only [zs, ne_eq] at h) <;> (try simp (disch := omega) only [w64] at h) <;> (try exact zx)) | (with_reducible intro hz; (try exact absurd hz (Nat.succ_ne_zero _)))))
            have e3 : oCS (alO (seg l s n) day (seg (pathL (seg l s n) k) (0 + ((z : Nat) : Int).toNat) ((pathL (seg l s n) k).length - ((z : Nat) : Int).toNat)) ((0, 1), 0, 1)) = 3 := c2'.2
            exact ⟨by rw [e3]; rfl⟩
          obtain ⟨v2, hv2⟩ := oCS_s c2
          have w1 : alO (seg l s n) day (seg (pathL (seg l s n) i) (0 + ((z : Nat) : Int).toNat) ((pathL (seg l s n) i).length - ((z : Nat) : Int).toNat)) ((0, 1), 0, 1) = some v1 := by rw [hsdA]; exact hv1
          have w2 : alO (seg l s n) day (seg (pathL (seg l s n) k) (0 + ((z : Nat) : Int).toNat) ((pathL (seg l s n) k).length - ((z : Nat) : Int).toNat)) ((0, 1), 0, 1) = some v2 := by rw [hsdB]; exact hv2
          have k1 : oCS (alO (seg l s n) day (seg (pathL (seg l s n) i) (0 + ((z : Nat) : Int).toNat) ((pathL (seg l s n) i).length - ((z : Nat) : Int).toNat)) ((0, 1), 0, 1)) = 0 := by rw [w1]; rfl
          have k2 : oCS (alO (seg l s n) day (seg (pathL (seg l s n) k) (0 + ((z : Nat) : Int).toNat) ((pathL (seg l s n) k).length - ((z : Nat) : Int).toNat)) ((0, 1), 0, 1)) = 0 := by rw [w2]; rfl
          have y1 : smS v1 := smS_alO smS_0 hv1
          have y2 : smS v2 := smS_alO smS_0 hv2
          have x1 : zsS (alO (seg l s n) day (seg (pathL (seg l s n) i) (0 + ((z : Nat) : Int).toNat) ((pathL (seg l s n) i).length - ((z : Nat) : Int).toNat)) ((0, 1), 0, 1)) = v1 := by rw [w1]; rfl
          have x2 : zsS (alO (seg l s n) day (seg (pathL (seg l s n) k) (0 + ((z : Nat) : Int).toNat) ((pathL (seg l s n) k).length - ((z : Nat) : Int).toNat)) ((0, 1), 0, 1)) = v2 := by rw [w2]; rfl
          by_cases hz0 : z = 0
          · subst hz0
            rw [df_4 hv1 hv2, ← x1, ← x2]
            rw [← x1] at y1
            rw [← x2] at y2
            (repeat' ((try dsimp only); (try (conv => whnf)); first | (with_reducible first | refine And.intro ?_ ?_ | refine WX.of ?_) | exact zc | ((with_reducible refine VC.mk ?_); exact zw) | ((with_reducible refine splitT_of ?_ ?_); (focus (simp only [k1, k2, Bool.not_true, Bool.not_false, decide_true, decide_false]; done))) | ((with_reducible refine splitF_of ?_ ?_); (focus (simp only [k1, k2, Bool.not_true, Bool.not_false, decide_true, decide_false]; done))) | ((with_reducible refine VC.mk ?_); exact hzA) | ((with_reducible refine VC.mk ?_); exact hzB) | ((with_reducible refine VC.mk ?_); exact ⟨⟨h1, hc⟩, hrA, hd, smS_0⟩) | ((with_reducible refine VC.mk ?_); exact ⟨⟨h1, hc⟩, hrB, hd, smS_0⟩) | ((with_reducible refine VC.mk ?_); exact ⟨y1, y2⟩) | (with_reducible first | refine splitT ?_ | refine splitF ?_) | ((with_reducible refine splitM.mk (fun hsm => ?_) (fun hsm => ?_)) <;> (try exact zx)) | ((with_reducible refine splitB.mk (fun h => ?_) (fun h => ?_)) <;> (try simp only [zs, ne_eq] at h) <;> (try simp (disch := omega) only [w64] at h) <;> (try exact zx)) | (with_reducible intro hz; (try exact absurd hz (Nat.succ_ne_zero _)))))
          by_cases c3 : oCS (miO v1 v2) = 0
          rotate_left 1
          · have c3' := df_3 hv1 hv2 c3
            rw [c3'.1]
            rw [← x1, ← x2] at c3 c3'
            have c3 : ¬ oCS (miO (((zsS (alO (seg l s n) day (seg (pathL (seg l s n) i) (0 + ((z : Nat) : Int).toNat) ((pathL (seg l s n) i).length - ((z : Nat) : Int).toNat)) ((0, 1), 0, 1))).1.1, (zsS (alO (seg l s n) day (seg (pathL (seg l s n) i) (0 + ((z : Nat) : Int).toNat) ((pathL (seg l s n) i).length - ((z : Nat) : Int).toNat)) ((0, 1), 0, 1))).1.2), (zsS (alO (seg l s n) day (seg (pathL (seg l s n) i) (0 + ((z : Nat) : Int).toNat) ((pathL (seg l s n) i).length - ((z : Nat) : Int).toNat)) ((0, 1), 0, 1))).2.1, (zsS (alO (seg l s n) day (seg (pathL (seg l s n) i) (0 + ((z : Nat) : Int).toNat) ((pathL (seg l s n) i).length - ((z : Nat) : Int).toNat)) ((0, 1), 0, 1))).2.2) (((zsS (alO (seg l s n) day (seg (pathL (seg l s n) k) (0 + ((z : Nat) : Int).toNat) ((pathL (seg l s n) k).length - ((z : Nat) : Int).toNat)) ((0, 1), 0, 1))).1.1, (zsS (alO (seg l s n) day (seg (pathL (seg l s n) k) (0 + ((z : Nat) : Int).toNat) ((pathL (seg l s n) k).length - ((z : Nat) : Int).toNat)) ((0, 1), 0, 1))).1.2), (zsS (alO (seg l s n) day (seg (pathL (seg l s n) k) (0 + ((z : Nat) : Int).toNat) ((pathL (seg l s n) k).length - ((z : Nat) : Int).toNat)) ((0, 1), 0, 1))).2.1, (zsS (alO (seg l s n) day (seg (pathL (seg l s n) k) (0 + ((z : Nat) : Int).toNat) ((pathL (seg l s n) k).length - ((z : Nat) : Int).toNat)) ((0, 1), 0, 1))).2.2)) = 0 := c3
            rw [← x1] at y1
            rw [← x2] at y2
            (repeat' ((try dsimp only); (try (conv => whnf)); first | (with_reducible first | refine And.intro ?_ ?_ | refine WX.of ?_) | exact zc | ((with_reducible refine VC.mk ?_); exact zw) | ((with_reducible refine splitT_of ?_ ?_); (focus (simp only [k1, k2, c3, Bool.not_true, Bool.not_false, decide_true, decide_false]; done))) | ((with_reducible refine splitF_of ?_ ?_); (focus (simp only [k1, k2, c3, Bool.not_true, Bool.not_false, decide_true, decide_false]; done))) | ((with_reducible refine VC.mk ?_); exact hzA) | ((with_reducible refine VC.mk ?_); exact hzB) | ((with_reducible refine VC.mk ?_); exact ⟨⟨h1, hc⟩, hrA, hd, smS_0⟩) | ((with_reducible refine VC.mk ?_); exact ⟨⟨h1, hc⟩, hrB, hd, smS_0⟩) | ((with_reducible refine VC.mk ?_); exact ⟨y1, y2⟩) | (with_reducible first | refine splitT ?_ | refine splitF ?_) | ((with_reducible refine splitM.mk (fun hsm => ?_) (fun hsm => ?_)) <;> (try exact zx)) | ((with_reducible refine splitB.mk (fun h => ?_) (fun h => ?_)) <;> (try simp only [zs, ne_eq] at h) <;> (try simp (disch := omega) only [w64] at h) <;> (try exact zx)) | (with_reducible intro hz; (try exact absurd hz (Nat.succ_ne_zero _)))))
            all_goals exact ⟨by rw [oCS_n c3]⟩
          obtain ⟨d, hd3⟩ := oCS_s c3
          have y3 : smS d := smS_miO hd3
          obtain ⟨g, hg1⟩ := get_some (l := (pathL (seg l s n) i)) (i := z - 1) (by omega)
          have hgr := path_mem hc hi0.2 g (List.mem_of_getElem? hg1)
          have hgr1 : 0 ≤ g ∧ g < (seg l s n).length := by omega
          have hgr2 := ir_n hgr1 hL
          obtain ⟨⟨nm1, fr1, ⟨⟨p1, q1⟩, p1', q1'⟩, ⟨dp1, dq1⟩, md1, gd1⟩, hga1, hgst, hgo1⟩ := ch_z hc hgr1
          have hgdr := smF_ok hgo1.dr
          dsimp only at hgdr
          have hda := dB hc hd hWA' z
          have hdb := dB hc hd hWB' z
          have hmx := mx_ok hda hdb
          have hab : -9223372036854775808 < nxD (seg l s n) day ((pathL (seg l s n) i).drop z) - nxD (seg l s n) day ((pathL (seg l s n) k).drop z) ∧ nxD (seg l s n) day ((pathL (seg l s n) i).drop z) - nxD (seg l s n) day ((pathL (seg l s n) k).drop z) < 9223372036854775808 := by omega
          rw [df_5 hv1 hv2 hd3 hz0, hg1]
          dsimp only [Option.getD_some]
          rw [hgst]
          have x3 : zsS (miO (zsS (alO (seg l s n) day (seg (pathL (seg l s n) i) (0 + ((z : Nat) : Int).toNat) ((pathL (seg l s n) i).length - ((z : Nat) : Int).toNat)) ((0, 1), 0, 1))) (zsS (alO (seg l s n) day (seg (pathL (seg l s n) k) (0 + ((z : Nat) : Int).toNat) ((pathL (seg l s n) k).length - ((z : Nat) : Int).toNat)) ((0, 1), 0, 1)))) = d := by rw [x1, x2, hd3]; rfl
          rw [← x1, ← x2] at c3
          have c3 : oCS (miO (((zsS (alO (seg l s n) day (seg (pathL (seg l s n) i) (0 + ((z : Nat) : Int).toNat) ((pathL (seg l s n) i).length - ((z : Nat) : Int).toNat)) ((0, 1), 0, 1))).1.1, (zsS (alO (seg l s n) day (seg (pathL (seg l s n) i) (0 + ((z : Nat) : Int).toNat) ((pathL (seg l s n) i).length - ((z : Nat) : Int).toNat)) ((0, 1), 0, 1))).1.2), (zsS (alO (seg l s n) day (seg (pathL (seg l s n) i) (0 + ((z : Nat) : Int).toNat) ((pathL (seg l s n) i).length - ((z : Nat) : Int).toNat)) ((0, 1), 0, 1))).2.1, (zsS (alO (seg l s n) day (seg (pathL (seg l s n) i) (0 + ((z : Nat) : Int).toNat) ((pathL (seg l s n) i).length - ((z : Nat) : Int).toNat)) ((0, 1), 0, 1))).2.2) (((zsS (alO (seg l s n) day (seg (pathL (seg l s n) k) (0 + ((z : Nat) : Int).toNat) ((pathL (seg l s n) k).length - ((z : Nat) : Int).toNat)) ((0, 1), 0, 1))).1.1, (zsS (alO (seg l s n) day (seg (pathL (seg l s n) k) (0 + ((z : Nat) : Int).toNat) ((pathL (seg l s n) k).length - ((z : Nat) : Int).toNat)) ((0, 1), 0, 1))).1.2), (zsS (alO (seg l s n) day (seg (pathL (seg l s n) k) (0 + ((z : Nat) : Int).toNat) ((pathL (seg l s n) k).length - ((z : Nat) : Int).toNat)) ((0, 1), 0, 1))).2.1, (zsS (alO (seg l s n) day (seg (pathL (seg l s n) k) (0 + ((z : Nat) : Int).toNat) ((pathL (seg l s n) k).length - ((z : Nat) : Int).toNat)) ((0, 1), 0, 1))).2.2)) = 0 := c3
          rw [← x3] at y3 ⊢
          rw [← x1] at y1
          rw [← x2] at y2
          (repeat' ((try dsimp only); (try (conv => whnf)); first | (with_reducible first | refine And.intro ?_ ?_ | refine WX.of ?_) | exact zc | ((with_reducible refine VC.mk ?_); exact zw) | with_reducible refine atL_e (j := z - 1) (by simp (disch := omega) only [w64]; omega) hg1 ?_ | with_reducible refine atL_p (seg_get hga1).1 ?_ | ((with_reducible refine splitT_of ?_ ?_); (focus (simp only [k1, k2, c3, hz0, Int.natCast_eq_zero, Bool.not_true, Bool.not_false, decide_true, decide_false]; done))) | ((with_reducible refine splitF_of ?_ ?_); (focus (simp only [k1, k2, c3, hz0, Int.natCast_eq_zero, Bool.not_true, Bool.not_false, decide_true, decide_false]; done))) | ((with_reducible refine VC.mk ?_); exact hzA) | ((with_reducible refine VC.mk ?_); exact hzB) | ((with_reducible refine VC.mk ?_); exact ⟨⟨h1, hc⟩, hrA, hd, smS_0⟩) | ((with_reducible refine VC.mk ?_); exact ⟨⟨h1, hc⟩, hrB, hd, smS_0⟩) | ((with_reducible refine VC.mk ?_); exact ⟨y1, y2⟩) | ((with_reducible refine VC.mk ?_); exact ⟨⟨h1, hc⟩, hrA⟩) | ((with_reducible refine VC.mk ?_); exact ⟨⟨h1, hc⟩, hrB⟩) | ((with_reducible refine VC.mk ?_); exact hgr2) | ((with_reducible refine VC.mk ?_); exact (by rw [hsdA, hsdB, hmx.1]; exact hab)) | ((with_reducible refine VC.mk ?_); exact ⟨y3, hgdr, by rw [hsdA, hsdB, hmx.1]; exact hmx.2.2.2.2⟩) | (with_reducible first | refine splitT ?_ | refine splitF ?_) | ((with_reducible refine splitM.mk (fun hsm => ?_) (fun hsm => ?_)) <;> (try exact zx)) | ((with_reducible refine splitB.mk (fun h => ?_) (fun h => ?_)) <;> (try simp only [zs, ne_eq] at h) <;> (try simp (disch := omega) only [w64] at h) <;> (try exact zx)) | (with_reducible intro hz; (try exact absurd hz (Nat.succ_ne_zero _)))))
          all_goals exact ⟨by rw [hsdA, hsdB, hmx.1]; rfl⟩
end Go.Proofs.Ytnmpgofhdjcpaaa.Eng
set_option linter.unusedVariables false
set_option linter.unusedSimpArgs false
namespace Go.Proofs.Ytnmpgofhdjcpaaa.Eng
open Go Go.RowKit
set_option maxRecDepth 100000
theorem tw_1 {L : List StT} {i k day : Int} (h : ¬ ccC L [i] [day] = 0) : ccC L [i, k] [day] = ccC L [i] [day] := by
  unfold ccC at *
  cases hc : chB L with
  | false => simp
  | true =>
    cases h1 : ixB L i <;> cases h2 : ixB L k <;> cases h3 : dyB day <;> simp_all
theorem tw_2 {L : List StT} {i k day : Int} (h : ccC L [i] [day] = 0) : ccC L [i, k] [day] = ccC L [k] [day] := by
  unfold ccC at *
  cases hc : chB L with
  | false => simp
  | true =>
    cases h1 : ixB L i <;> cases h2 : ixB L k <;> cases h3 : dyB day <;> simp_all
def s_l05Two : Spec := fun args S => match args, S with
  | [.sl 0 s n x, .int .i64 i, .int .i64 k, .int .i64 d], [.arr (.prod .str (.prod (.int .i64) (.prod (.prod (.prod (.int .i64) (.int .i64)) (.prod (.int .i64) (.int .i64))) (.prod (.prod (.int .i64) (.int .i64)) (.prod (.int .i64) (.int .i64)))))) l 10 wr] => ⟨chP s n l, .int .i64 (ccC (seg l s n) [i, k] [d]), [.arr (.prod .str (.prod (.int .i64) (.prod (.prod (.prod (.int .i64) (.int .i64)) (.prod (.int .i64) (.int .i64))) (.prod (.prod (.int .i64) (.int .i64)) (.prod (.int .i64) (.int .i64)))))) l 10 wr]⟩
  | _, _ => noSpec
theorem ok_l05Two : SpecOk Try.prog 49 s_l05Two := by
  intro args S h; unfold s_l05Two at h ⊢; (split at h <;> first | exact False.elim h | skip)
  dsimp only at h ⊢
  rename_i s n x i k d l wr
  have hq := h
  refine funW tabOk (E := [(51, s_l05At)]) ⟨ok_l05At, trivial⟩ [] (k := 1) (fn := Try.f49) rfl rfl rfl rfl rfl rfl ?_
  (repeat' ((try (conv => whnf)); first | (with_reducible first | refine And.intro ?_ ?_ | refine WX.of ?_) | exact zc | ((with_reducible refine VC.mk ?_); exact zw) | ((with_reducible refine VC.mk ?_); exact hq) | (with_reducible first | refine splitT ?_ | refine splitF ?_) | ((with_reducible refine splitM.mk (fun hsm => ?_) (fun hsm => ?_)) <;> (try exact zx)) | ((with_reducible refine splitB.mk (fun h => ?_) (fun h => ?_)) <;> (try simp only [zs, ne_eq] at h) <;> (try simp (disch := omega) only [w64] at h) <;> (try exact zx)) | (with_reducible intro hz; (try exact absurd hz (Nat.succ_ne_zero _)))))
  · exact ⟨by rw [tw_1 h]⟩
  · exact ⟨by rw [tw_2 h]⟩
def apB (v : SpT) : Bool := decide (0 < v.1.1) || decide (v.2.1 < 0)
def apV (L : List StT) (i k day : Int) : Bool := if dcC L i k day = 0 then apB (dcV L i k day) else false
def s_apart : Spec := fun args S => match args, S with
  | [.sl 0 s n x, .int .i64 i, .int .i64 k, .int .i64 d], [.arr (.prod .str (.prod (.int .i64) (.prod (.prod (.prod (.int .i64) (.int .i64)) (.prod (.int .i64) (.int .i64))) (.prod (.prod (.int .i64) (.int .i64)) (.prod (.int .i64) (.int .i64)))))) l 10 wr] => ⟨chP s n l, .tup [.bool (apV (seg l s n) i k d), .int .i64 (dcC (seg l s n) i k d)], [.arr (.prod .str (.prod (.int .i64) (.prod (.prod (.prod (.int .i64) (.int .i64)) (.prod (.int .i64) (.int .i64))) (.prod (.prod (.int .i64) (.int .i64)) (.prod (.int .i64) (.int .i64)))))) l 10 wr]⟩
  | _, _ => noSpec
theorem ok_AreApartI : SpecOk Try.prog 14 s_apart := by
  intro args S h; unfold s_apart at h ⊢; (split at h <;> first | exact False.elim h | skip)
  dsimp only at h ⊢
  rename_i s n x i k d l wr
  have hq := h
  unfold apV
  by_cases hc : dcC (seg l s n) i k d = 0
  · rw [if_pos hc]
    refine funW tabOk (E := [(9, s_diff)]) ⟨ok_DifferenceOnI, trivial⟩ [] (k := 1) (fn := Try.f14) rfl rfl rfl rfl rfl rfl ?_
    (repeat' ((try (conv => whnf)); first | (with_reducible first | refine And.intro ?_ ?_ | refine WX.of ?_) | exact zc | ((with_reducible refine VC.mk ?_); exact zw) | ((with_reducible refine VC.mk ?_); exact hq) | ((with_reducible refine splitT_of ?_ ?_); (focus (simp only [hc, Bool.not_true, Bool.not_false, decide_true, decide_false]; done))) | ((with_reducible refine splitF_of ?_ ?_); (focus (simp only [hc, Bool.not_true, Bool.not_false, decide_true, decide_false]; done))) | (with_reducible first | refine splitT ?_ | refine splitF ?_) | ((with_reducible refine splitM.mk (fun hsm => ?_) (fun hsm => ?_)) <;> (try exact zx)) | ((with_reducible refine splitB.mk (fun h => ?_) (fun h => ?_)) <;> (try simp only [zs, ne_eq] at h) <;> (try simp (disch := omega) only [w64] at h) <;> (try exact zx)) | (with_reducible intro hz; (try exact absurd hz (Nat.succ_ne_zero _)))))
    · refine ⟨?_⟩; rw [hc]; unfold apB; rw [decide_eq_true h]; rfl
    · refine ⟨?_⟩; rw [hc]; unfold apB; rw [decide_eq_false (Int.not_lt.2 h), Bool.false_or]
  · rw [if_neg hc]
    refine funW tabOk (E := [(9, s_diff)]) ⟨ok_DifferenceOnI, trivial⟩ [] (k := 1) (fn := Try.f14) rfl rfl rfl rfl rfl rfl ?_
    (repeat' ((try (conv => whnf)); first | (with_reducible first | refine And.intro ?_ ?_ | refine WX.of ?_) | exact zc | ((with_reducible refine VC.mk ?_); exact zw) | ((with_reducible refine VC.mk ?_); exact hq) | ((with_reducible refine splitT_of ?_ ?_); (focus (simp only [hc, Bool.not_true, Bool.not_false, decide_true, decide_false]; done))) | ((with_reducible refine splitF_of ?_ ?_); (focus (simp only [hc, Bool.not_true, Bool.not_false, decide_true, decide_false]; done))) | (with_reducible first | refine splitT ?_ | refine splitF ?_) | ((with_reducible refine splitM.mk (fun hsm => ?_) (fun hsm => ?_)) <;> (try exact zx)) | ((with_reducible refine splitB.mk (fun h => ?_) (fun h => ?_)) <;> (try simp only [zs, ne_eq] at h) <;> (try simp (disch := omega) only [w64] at h) <;> (try exact zx)) | (with_reducible intro hz; (try exact absurd hz (Nat.succ_ne_zero _)))))
end Go.Proofs.Ytnmpgofhdjcpaaa.Eng
set_option linter.unusedVariables false
set_option linter.unusedSimpArgs false
namespace Go.Proofs.Ytnmpgofhdjcpaaa.Eng
open Go Go.RowKit
set_option maxRecDepth 100000
theorem cp_take : ∀ (a b : List Int), a.take (cpN a b) = b.take (cpN a b)
  | [], b => by simp [cpN]
  | x :: a, [] => by simp [cpN]
  | x :: a, y :: b => by
    rw [cpN]; split
    · rename_i h
      simp only [List.take_succ_cons]
      rw [h, cp_take a b]
    · rfl
theorem cp_sym : ∀ (a b : List Int), cpN a b = cpN b a
  | [], [] => rfl
  | [], _ :: _ => rfl
  | _ :: _, [] => rfl
  | x :: a, y :: b => by
    rw [cpN, cpN]
    by_cases h : x = y
    · rw [if_pos h, if_pos h.symm, cp_sym a b]
    · rw [if_neg h, if_neg fun e => h e.symm]
def cA (L : List StT) (i k day : Int) (n : Nat) : Int := if n = 0 then 0 else drI L (((pathL L i)[n - 1]?).getD 0) * absZ (nxD L day ((pathL L i).drop n) - nxD L day ((pathL L k).drop n))
def dfI (L : List StT) (i k day : Int) : ISp :=
  ((alI L day ((pathL L i).drop (cpN (pathL L i) (pathL L k))) (0, 0)).1 - (alI L day ((pathL L k).drop (cpN (pathL L i) (pathL L k))) (0, 0)).2 - cA L i k day (cpN (pathL L i) (pathL L k)),
   (alI L day ((pathL L i).drop (cpN (pathL L i) (pathL L k))) (0, 0)).2 - (alI L day ((pathL L k).drop (cpN (pathL L i) (pathL L k))) (0, 0)).1 + cA L i k day (cpN (pathL L i) (pathL L k)))
/-- What holds of two standards that are good on a day. -/
structure Two (L : List StT) (i k day : Int) : Prop where
  C : chB L = true
  T : TwCh L
  l : L.length ≤ 8
  hi : 0 ≤ i ∧ i < L.length
  hk : 0 ≤ k ∧ k < L.length
  gi : gdB (stAt L i) day = true
  gk : gdB (stAt L k) day = true
theorem Two.swap {L : List StT} {i k day : Int} (h : Two L i k day) : Two L k i day := ⟨h.C, h.T, h.l, h.hk, h.hi, h.gk, h.gi⟩
theorem Two.wi {L : List StT} {i k day : Int} (h : Two L i k day) : okW L day (pathL L i) := okW_path h.C h.T (i.toNat + 1) (by have := h.hi; omega) h.hi.2 fun _ => h.gi
theorem Two.pi {L : List StT} {i k day : Int} (h : Two L i k day) : (pathL L i).length ≤ 8 := path_8 h.C h.l h.hi.2
theorem absZ_b (a b : Int) : absZ (a - b) = absZ (b - a) ∧ 0 ≤ absZ (a - b) ∧ (a - b ≤ absZ (a - b) ∧ b - a ≤ absZ (a - b)) := by unfold absZ; omega
/-- The last common one: where it lies, and by how many days it is wider. -/
theorem two_last {L : List StT} {i k day : Int} (h : Two L i k day) {n : Nat} (hn : cpN (pathL L i) (pathL L k) = n + 1) :
    ∃ (j : Int) (C : List Int), (pathL L i)[n]? = some j ∧ (pathL L k)[n]? = some j ∧ (pathL L i).take (n + 1) = C ++ [j] ∧ (pathL L k).take (n + 1) = C ++ [j] ∧ (0 ≤ j ∧ j < L.length) ∧ okW L (stMd (stAt L j)) C ∧
      (0 ≤ nxD L day ((pathL L i).drop (n + 1)) - stMd (stAt L j) ∧ nxD L day ((pathL L i).drop (n + 1)) - stMd (stAt L j) ≤ 100000) ∧ 0 ≤ nxD L day ((pathL L k).drop (n + 1)) - stMd (stAt L j) ∧ nxD L day ((pathL L k).drop (n + 1)) - stMd (stAt L j) ≤ 100000 := by
  have hle := cp_le (pathL L i) (pathL L k)
  have ht := cp_take (pathL L i) (pathL L k)
  rw [hn] at hle ht
  obtain ⟨j, hj⟩ := get_some (l := pathL L i) (i := n) (by omega)
  have hi2 := (List.getElem?_eq_some_iff.1 hj).1
  have e1 : (pathL L i).take (n + 1) = (pathL L i).take n ++ [j] := by
    obtain ⟨hh, rfl⟩ := List.getElem?_eq_some_iff.1 hj
    exact List.take_succ_eq_append_getElem hh
  have hk : (pathL L k)[n]? = some j := by
    have : ((pathL L k).take (n + 1))[n]? = some j := by
      rw [← ht, e1, List.getElem?_append_right (by rw [List.length_take]; omega), List.length_take, show n - min n (pathL L i).length = 0 by omega]
      rfl
    rw [List.getElem?_take, if_pos (by omega)] at this
    exact this
  have w1 := h.wi
  have w2 := h.swap.wi
  rw [← List.take_append_drop (n + 1) (pathL L i), okW_app, e1, okW_app] at w1
  rw [← List.take_append_drop (n + 1) (pathL L k), okW_app, ← ht, e1, okW_app] at w2
  obtain ⟨⟨w3, ⟨⟨w4, w5⟩, _⟩⟩, _⟩ := w1
  obtain ⟨⟨_, ⟨⟨_, w6⟩, _⟩⟩, _⟩ := w2
  exact ⟨j, _, hj, hk, e1, by rw [← ht]; exact e1, w4, w3, w5, w6⟩
theorem cA_b {L : List StT} {i k day : Int} (h : Two L i k day) : 0 ≤ cA L i k day (cpN (pathL L i) (pathL L k)) ∧ cA L i k day (cpN (pathL L i) (pathL L k)) ≤ 6000000 := by
  unfold cA
  cases hn : cpN (pathL L i) (pathL L k) with
  | zero => simp
  | succ n =>
    obtain ⟨j, C, h1, h2, h3, h4, hj, h5, h6, h7⟩ := two_last h hn
    rw [if_neg (by omega), show n + 1 - 1 = n by omega, h1]
    have s := (st_tw h.T hj).2.2.2
    have ha := absZ_b (nxD L day ((pathL L i).drop (n + 1))) (nxD L day ((pathL L k).drop (n + 1)))
    have hb : absZ (nxD L day ((pathL L i).drop (n + 1)) - nxD L day ((pathL L k).drop (n + 1))) ≤ 100000 := by unfold absZ; omega
    have := mul_b (d := drI L j) (e := absZ (nxD L day ((pathL L i).drop (n + 1)) - nxD L day ((pathL L k).drop (n + 1)))) s ⟨ha.2.1, hb⟩
    exact this
theorem df_parts {L : List StT} {i k day : Int} (h : Two L i k day) (n : Nat) : (-60000000 ≤ (alI L day ((pathL L i).drop n) (0, 0)).1 ∧ (alI L day ((pathL L i).drop n) (0, 0)).1 ≤ (alI L day ((pathL L i).drop n) (0, 0)).2) ∧ (alI L day ((pathL L i).drop n) (0, 0)).2 ≤ 60000000 ∧ alO L day ((pathL L i).drop n) s00 = some (twS (alI L day ((pathL L i).drop n) (0, 0))) := by
  have hw := okW_drop h.wi n
  have hp := h.pi
  have hl : ((pathL L i).drop n).length ≤ 8 := by rw [List.length_drop]; omega
  have g := al_tw h.T ((pathL L i).drop n) (0, 0) 0 hw (by decide) (by decide) (by decide) (by omega)
  have hle := alI_le h.T ((pathL L i).drop n) (0, 0) hw (by decide)
  refine ⟨⟨by have := g.2.1; omega, hle⟩, by have := g.2.2; omega, ?_⟩
  have := g.1
  rw [← tw_00] at this
  exact this
theorem df_le {L : List StT} {i k day : Int} (h : Two L i k day) : (-200000000 ≤ (dfI L i k day).1 ∧ (dfI L i k day).1 ≤ (dfI L i k day).2) ∧ (dfI L i k day).2 ≤ 200000000 := by
  have h1 := df_parts h (cpN (pathL L i) (pathL L k))
  have h2 := df_parts h.swap (cpN (pathL L i) (pathL L k))
  have h3 := cA_b h
  unfold dfI
  dsimp only
  omega
theorem df_tw {L : List StT} {i k day : Int} (h : Two L i k day) : dfO L i k day = some (twS (dfI L i k day)) := by
  have h1 := df_parts h (cpN (pathL L i) (pathL L k))
  have h2 := df_parts h.swap (cpN (pathL L i) (pathL L k))
  have h3 := cA_b h
  unfold dfO dfN
  rw [h1.2.2, h2.2.2]
  simp only [Option.bind_some]
  unfold miO twS
  dsimp only
  rw [tw_sub (by omega), tw_sub (by omega)]
  simp only [spO, Option.bind_some]
  cases hn : cpN (pathL L i) (pathL L k) with
  | zero =>
    rw [if_pos rfl]
    unfold dfI cA
    rw [hn, if_pos rfl]
    simp
  | succ n =>
    obtain ⟨j, C, g1, g2, g3, g4, hj, g5, g6, g7⟩ := two_last h hn
    have s := st_tw h.T hj
    rw [if_neg (by omega), show n + 1 - 1 = n by omega, g1]
    rw [hn] at h1 h2 h3
    unfold cA at h3
    rw [if_neg (by omega), show n + 1 - 1 = n by omega, g1] at h3
    simp only [Option.getD_some] at h3 ⊢
    unfold drO
    rw [s.2.1, tw_mul (by omega)]
    simp only [Option.bind_some]
    unfold wdO
    dsimp only
    rw [tw_sub (by omega), tw_add (by omega)]
    unfold dfI cA
    rw [hn, if_neg (by omega), show n + 1 - 1 = n by omega, g1]
    rfl
theorem df_sym {L : List StT} {i k day : Int} (h : Two L i k day) : dfI L k i day = (-(dfI L i k day).2, -(dfI L i k day).1) := by
  have hs := cp_sym (pathL L k) (pathL L i)
  have hc : cA L k i day (cpN (pathL L i) (pathL L k)) = cA L i k day (cpN (pathL L i) (pathL L k)) := by
    cases hn : cpN (pathL L i) (pathL L k) with
    | zero => simp [cA]
    | succ n =>
      obtain ⟨j, C, g1, g2, _⟩ := two_last h hn
      unfold cA
      rw [if_neg (by omega), if_neg (by omega), show n + 1 - 1 = n by omega, g1, g2, (absZ_b _ _).1]
  unfold dfI
  rw [hs, hc]
  exact Prod.ext (by dsimp only; omega) (by dsimp only; omega)
theorem df_self (L : List StT) (i day : Int) : dfI L i i day = (0, 0) := by
  unfold dfI cA
  rw [cp_self, List.drop_eq_nil_of_le (Nat.le_refl _)]
  simp only [alI, Int.sub_self, absZ]
  split <;> simp
theorem alI_one (L : List StT) (day j : Int) (z : ISp) : alI L day [j] z = (z.1 + loI L j - drI L j * (day - stMd (stAt L j)), z.2 + hiI L j + drI L j * (day - stMd (stAt L j))) := rfl
theorem nxD_one (L : List StT) (day j : Int) : nxD L day [j] = stMd (stAt L j) := rfl
/-- It lies in the difference of the spans. -/
theorem df_in {L : List StT} {i k day : Int} (h : Two L i k day) : (spI L i day).1 - (spI L k day).2 ≤ (dfI L i k day).1 ∧ (dfI L i k day).2 ≤ (spI L i day).2 - (spI L k day).1 := by
  have ei : spI L i day = alI L day ((pathL L i).drop (cpN (pathL L i) (pathL L k))) (alI L (nxD L day ((pathL L i).drop (cpN (pathL L i) (pathL L k)))) ((pathL L i).take (cpN (pathL L i) (pathL L k))) (0, 0)) := by
    unfold spI
    conv => lhs; rw [← List.take_append_drop (cpN (pathL L i) (pathL L k)) (pathL L i)]
    exact alI_app L day _ _ _
  have ek : spI L k day = alI L day ((pathL L k).drop (cpN (pathL L i) (pathL L k))) (alI L (nxD L day ((pathL L k).drop (cpN (pathL L i) (pathL L k)))) ((pathL L k).take (cpN (pathL L i) (pathL L k))) (0, 0)) := by
    unfold spI
    conv => lhs; rw [← List.take_append_drop (cpN (pathL L i) (pathL L k)) (pathL L k)]
    exact alI_app L day _ _ _
  rw [alI_add] at ei ek
  rw [ei, ek]
  unfold dfI
  dsimp only
  cases hn : cpN (pathL L i) (pathL L k) with
  | zero =>
    simp only [List.take_zero, alI, cA]
    simp
  | succ n =>
    obtain ⟨j, C, g1, g2, g3, g4, hj, g5, g6, g7⟩ := two_last h hn
    have s := st_tw h.T hj
    have hR := alI_le h.T C (0, 0) g5 (by decide)
    rw [g3, g4, alI_app, alI_app]
    rw [alI_one, alI_one, nxD_one, nxD_one]
    dsimp only
    unfold cA
    rw [if_neg (by omega), show n + 1 - 1 = n by omega, g1]
    simp only [Option.getD_some]
    generalize alI L (stMd (stAt L j)) C (0, 0) = R at *
    generalize nxD L day ((pathL L i).drop (n + 1)) = ea at *
    generalize nxD L day ((pathL L k).drop (n + 1)) = eb at *
    have ha := absZ_b ea eb
    have hab : absZ (ea - eb) ≤ (ea - stMd (stAt L j)) + (eb - stMd (stAt L j)) := by unfold absZ; omega
    have hm : drI L j * absZ (ea - eb) ≤ drI L j * ((ea - stMd (stAt L j)) + (eb - stMd (stAt L j))) := Int.mul_le_mul_of_nonneg_left hab s.2.2.2.1
    rw [Int.mul_add] at hm
    have sl := s.2.2.1
    omega
end Go.Proofs.Ytnmpgofhdjcpaaa.Eng
set_option linter.unusedVariables false
set_option linter.unusedSimpArgs false
namespace Go.Proofs.Ytnmpgofhdjcpaaa.Eng
open Go Go.RowKit
set_option maxRecDepth 100000
theorem codL_o {c : Bool} {b n : Nat} {l : List Int} : codL (.opt c b n 0) (.arrO (.int .u8) l 1) = seg l 0 n := rfl
theorem codL_s {b s n x : Nat} {l : List Int} {wr : Bool} : codL (.sl b s n x) (.arr (.int .u8) l 1 wr) = seg l s n := rfl
/-- Reducing what gives a valid fraction. -/
def s_redT : Spec := fun args S => match args, S with
  | [.int .i64 p, .int .i64 q], [] => ⟨(q ≠ 0 ∧ (-9223372036854775807 ≤ p ∧ p ≤ 9223372036854775807) ∧ (-9223372036854775807 ≤ q ∧ q ≤ 9223372036854775807)) ∧ redOk p q = true, .tup [.agg [.int .i64 (redP p q), .int .i64 (redQ p q)], .int .i64 0], []⟩
  | _, _ => noSpec
theorem ok_redT : SpecOk Try.prog 116 s_redT := by
  intro args S h; unfold s_redT at h ⊢; (split at h <;> first | exact False.elim h | skip)
  dsimp only at h ⊢
  rename_i p q
  have := ok_l01Reduced [.int .i64 p, .int .i64 q] [] h.1
  simp only [s_red, h.2, if_true] at this
  exact this
end Go.Proofs.Ytnmpgofhdjcpaaa.Eng
set_option linter.unusedVariables false
set_option linter.unusedSimpArgs false
namespace Go.Proofs.Ytnmpgofhdjcpaaa.Eng
open Go Go.RowKit
set_option maxRecDepth 100000
theorem pa1 {t n : Int} (h : 2 ≤ n ∧ n ≤ 200) : pickA t n = t + 1 := by unfold pickA; rw [if_neg (by omega), if_neg (by omega)]
theorem rowT {cv : SV} {rb : SB} {L : List Int} {z z' : Int} (h : z = z') : [SB.box [cv, .int .i64 z, .int .u64 (sdI L z)] true false, rb] = [SB.box [cv, .int .i64 z', .int .u64 (sdI L z')] true false, rb] := by subst h; rfl
def s_smD : Spec := fun args S => match args, S with
  | [.ptr 0 0 0, .int .i64 most], [.box [cv, .int .i64 t, .int .u64 sd] true false, rb] => ⟨(srcP 1 cv rb t sd ∧ t ≤ 999999999900) ∧ 1 ≤ most ∧ most ≤ 20, .agg [.int .i64 (tw (smW (codL cv rb) t most)).1, .int .i64 (tw (smW (codL cv rb) t most)).2], [.box [cv, .int .i64 (t + 2), .int .u64 (sdI (codL cv rb) (t + 2))] true false, rb]⟩
  | _, _ => noSpec
set_option maxHeartbeats 1600000 in
theorem ok_l05Small : SpecOk Try.prog 83 s_smD := by
  intro args S h; unfold s_smD at h ⊢; (split at h <;> first | exact False.elim h | skip)
  dsimp only at h ⊢
  rename_i most cv t sd rb
  obtain ⟨⟨⟨hc, ht, rfl⟩, ht2⟩, h1, h2⟩ := h
  have hb := cod_b hc
  have hsx := smW_of hb t most
  have hwm : IntKind.i64.wrap (2 * most) = 2 * most := w64 (by omega)
  have hn : IntKind.i64.wrap (IntKind.i64.wrap (2 * most) + 1) = 2 * most + 1 := by rw [hwm, w64 (by omega)]
  have hpa : pickA t (IntKind.i64.wrap (IntKind.i64.wrap (2 * most) + 1)) = t + 1 := by rw [hn]; exact pa1 (by omega)
  have hpb := pickV_b hb t (2 * most + 1)
  have hp2 := hpb.2 (by omega)
  have hP : IntKind.i64.wrap (pickV (codL cv rb) t (IntKind.i64.wrap (IntKind.i64.wrap (2 * most) + 1)) - most) = pickV (codL cv rb) t (2 * most + 1) - most := by rw [hn]; exact w64 (by omega)
  have hq0 : 0 ≤ pickA t (IntKind.i64.wrap (IntKind.i64.wrap (2 * most) + 1)) ∧ pickA t (IntKind.i64.wrap (IntKind.i64.wrap (2 * most) + 1)) ≤ 1000000000000 := by rw [hpa]; omega
  have hq1 : pickA t (IntKind.i64.wrap (IntKind.i64.wrap (2 * most) + 1)) ≤ 999999999990 := by rw [hpa]; omega
  have hnl : IntKind.i64.wrap (IntKind.i64.wrap (2 * most) + 1) ≤ 1000000000 := by rw [hn]; omega
  have hA : amV (codL cv rb) (pickA t (IntKind.i64.wrap (IntKind.i64.wrap (2 * most) + 1))) [1, 1, 2, 4, 5, 10] = amV (codL cv rb) (t + 1) [1, 1, 2, 4, 5, 10] := by rw [hpa]
  have htw := tw_of (p := pickV (codL cv rb) t (2 * most + 1) - most) (q := amV (codL cv rb) (t + 1) [1, 1, 2, 4, 5, 10]) (x := smW (codL cv rb) t most) (by omega) hsx.1
  have hrd : (amV (codL cv rb) (pickA t (IntKind.i64.wrap (IntKind.i64.wrap (2 * most) + 1))) [1, 1, 2, 4, 5, 10] ≠ 0 ∧ (-9223372036854775807 ≤ IntKind.i64.wrap (pickV (codL cv rb) t (IntKind.i64.wrap (IntKind.i64.wrap (2 * most) + 1)) - most) ∧ IntKind.i64.wrap (pickV (codL cv rb) t (IntKind.i64.wrap (IntKind.i64.wrap (2 * most) + 1)) - most) ≤ 9223372036854775807) ∧ (-9223372036854775807 ≤ amV (codL cv rb) (pickA t (IntKind.i64.wrap (IntKind.i64.wrap (2 * most) + 1))) [1, 1, 2, 4, 5, 10] ∧ amV (codL cv rb) (pickA t (IntKind.i64.wrap (IntKind.i64.wrap (2 * most) + 1))) [1, 1, 2, 4, 5, 10] ≤ 9223372036854775807)) ∧ redOk (IntKind.i64.wrap (pickV (codL cv rb) t (IntKind.i64.wrap (IntKind.i64.wrap (2 * most) + 1)) - most)) (amV (codL cv rb) (pickA t (IntKind.i64.wrap (IntKind.i64.wrap (2 * most) + 1))) [1, 1, 2, 4, 5, 10]) = true := by
    rw [hA, hP]
    exact ⟨⟨by omega, by omega, by omega⟩, redOk_small (by omega) (by omega)⟩
  have hfin : ∀ (c2 : SV) (r2 : SB), SV.agg [SV.int .i64 (redP (IntKind.i64.wrap (pickV (codL cv rb) t (IntKind.i64.wrap (IntKind.i64.wrap (2 * most) + 1)) - most)) (amV (codL cv rb) (pickA t (IntKind.i64.wrap (IntKind.i64.wrap (2 * most) + 1))) [1, 1, 2, 4, 5, 10])), SV.int .i64 (redQ (IntKind.i64.wrap (pickV (codL cv rb) t (IntKind.i64.wrap (IntKind.i64.wrap (2 * most) + 1)) - most)) (amV (codL cv rb) (pickA t (IntKind.i64.wrap (IntKind.i64.wrap (2 * most) + 1))) [1, 1, 2, 4, 5, 10]))] = SV.agg [SV.int .i64 (tw (smW (codL cv rb) t most)).1, SV.int .i64 (tw (smW (codL cv rb) t most)).2] := fun _ _ => by
    rw [hA, hP, ← htw]
  have hpos : pickA (pickA t (IntKind.i64.wrap (IntKind.i64.wrap (2 * most) + 1))) 6 = t + 2 := by
    rw [hpa, pa1 (by omega)]; omega
  rcases codP_c hc with ⟨c, m, q, rfl, rfl, e, h3⟩ | ⟨s, m, y, q, wq, rfl, rfl, e, h3⟩
  · simp only [codL_o, codL_s] at *
    refine funW tabOk (E := [(79, s_pick), (86, s_among), (116, s_redT)]) ⟨ok_pick, ok_among, ok_redT, trivial⟩ [] (k := 2) (fn := Try.f83) rfl rfl rfl rfl rfl rfl ?_
    (repeat' ((try (conv => whnf)); first | (with_reducible first | refine And.intro ?_ ?_ | refine WX.of ?_) | exact zc | ((with_reducible refine VC.mk ?_); exact zw) | ((with_reducible refine VC.mk ?_); exact ⟨⟨⟨⟨rfl, h3⟩, ht, rfl⟩, by omega⟩, hnl⟩) | ((with_reducible refine VC.mk ?_); exact ⟨⟨⟨⟨rfl, h3⟩, hq0, rfl⟩, hq1⟩, rfl, by decide, by decide⟩) | ((with_reducible refine VC.mk ?_); exact hrd) | (with_reducible first | refine splitT ?_ | refine splitF ?_) | ((with_reducible refine splitM.mk (fun hsm => ?_) (fun hsm => ?_)) <;> (try exact zx)) | ((with_reducible refine splitB.mk (fun h => ?_) (fun h => ?_)) <;> (try simp only [zs, ne_eq] at h) <;> (try simp (disch := omega) only [w64] at h) <;> (try exact zx)) | (with_reducible intro hz; (try exact absurd hz (Nat.succ_ne_zero _)))))
    · exact VC.mk (hfin .nils .gone)
    · exact VC.mk (rowT hpos)
  · simp only [codL_o, codL_s] at *
    refine funW tabOk (E := [(79, s_pick), (86, s_among), (116, s_redT)]) ⟨ok_pick, ok_among, ok_redT, trivial⟩ [] (k := 2) (fn := Try.f83) rfl rfl rfl rfl rfl rfl ?_
    (repeat' ((try (conv => whnf)); first | (with_reducible first | refine And.intro ?_ ?_ | refine WX.of ?_) | exact zc | ((with_reducible refine VC.mk ?_); exact zw) | ((with_reducible refine VC.mk ?_); exact ⟨⟨⟨⟨rfl, h3⟩, ht, rfl⟩, by omega⟩, hnl⟩) | ((with_reducible refine VC.mk ?_); exact ⟨⟨⟨⟨rfl, h3⟩, hq0, rfl⟩, hq1⟩, rfl, by decide, by decide⟩) | ((with_reducible refine VC.mk ?_); exact hrd) | (with_reducible first | refine splitT ?_ | refine splitF ?_) | ((with_reducible refine splitM.mk (fun hsm => ?_) (fun hsm => ?_)) <;> (try exact zx)) | ((with_reducible refine splitB.mk (fun h => ?_) (fun h => ?_)) <;> (try simp only [zs, ne_eq] at h) <;> (try simp (disch := omega) only [w64] at h) <;> (try exact zx)) | (with_reducible intro hz; (try exact absurd hz (Nat.succ_ne_zero _)))))
    · exact VC.mk (hfin .nils .gone)
    · exact VC.mk (rowT hpos)
/-- Sums of fractions of twenty parts. -/
def s_addTw (x y : Int) : Spec := fun args S => match args, S with
  | [.agg [.int .i64 p, .int .i64 q], .agg [.int .i64 p', .int .i64 q']], [] => ⟨((p, q) = tw x ∧ (p', q') = tw y) ∧ (-1000000000 ≤ x ∧ x ≤ 1000000000) ∧ (-1000000000 ≤ y ∧ y ≤ 1000000000) ∧ -1000000000 ≤ x + y ∧ x + y ≤ 1000000000, .tup [.agg [.int .i64 (tw (x + y)).1, .int .i64 (tw (x + y)).2], .int .i64 0], []⟩
  | _, _ => noSpec
theorem ok_addTw (x y : Int) : SpecOk Try.prog 115 (s_addTw x y) := by
  intro args S h; unfold s_addTw at h ⊢; (split at h <;> first | exact False.elim h | skip)
  dsimp only at h ⊢
  rename_i p q p' q'
  obtain ⟨⟨e1, e2⟩, h1, h2, h3⟩ := h
  have s1 := smF_ok (tw_ok h1)
  have s2 := smF_ok (tw_ok h2)
  rw [← e1] at s1
  rw [← e2] at s2
  have := ok_l01Add [.agg [.int .i64 p, .int .i64 q], .agg [.int .i64 p', .int .i64 q']] [] ⟨s1, s2⟩
  have ha := tw_add h3
  rw [← e1, ← e2] at ha
  unfold adO at ha
  dsimp only at ha
  have hz := zv_r (p * q' + p' * q) (q * q')
  rw [ha] at hz
  simp only [s_addS] at this
  rw [hz.1, hz.2.1, hz.2.2] at this
  exact this
def s_btD : Spec := fun args S => match args, S with
  | [.ptr 0 0 0, .int .i64 most], [.box [cv, .int .i64 t, .int .u64 sd] true false, rb] => ⟨(srcP 1 cv rb t sd ∧ t ≤ 999999999800) ∧ 1 ≤ most ∧ most ≤ 20, .agg [.int .i64 (tw (smW (codL cv rb) t most)).1, .int .i64 (tw (smW (codL cv rb) t most)).2, .int .i64 (tw (smW (codL cv rb) t most + absI (smW (codL cv rb) (t + 2) 6))).1, .int .i64 (tw (smW (codL cv rb) t most + absI (smW (codL cv rb) (t + 2) 6))).2], [.box [cv, .int .i64 (t + 4), .int .u64 (sdI (codL cv rb) (t + 4))] true false, rb]⟩
  | _, _ => noSpec
set_option maxHeartbeats 1600000 in
theorem ok_l05Between : SpecOk Try.prog 81 s_btD := by
  intro args S h; unfold s_btD at h ⊢; (split at h <;> first | exact False.elim h | skip)
  dsimp only at h ⊢
  rename_i most cv t sd rb
  obtain ⟨⟨⟨hc, ht, rfl⟩, ht2⟩, h1, h2⟩ := h
  have hb := cod_b hc
  have b1 := smW_b hb (t := t) (most := most) (by omega)
  have b2 := smW_b hb (t := t + 2) (most := 6) (by decide)
  have b3 := absI_b (x := smW (codL cv rb) (t + 2) 6) (m := 120) (by omega)
  have hsg := tw_sgn (smW (codL cv rb) (t + 2) 6)
  have hs2 := smF_ok (tw_ok (x := smW (codL cv rb) (t + 2) 6) (by omega))
  have hpos : t + 2 + 2 = t + 4 := by omega
  have hadd : (-1000000000 ≤ smW (codL cv rb) t most ∧ smW (codL cv rb) t most ≤ 1000000000) ∧ (-1000000000 ≤ absI (smW (codL cv rb) (t + 2) 6) ∧ absI (smW (codL cv rb) (t + 2) 6) ≤ 1000000000) ∧ -1000000000 ≤ smW (codL cv rb) t most + absI (smW (codL cv rb) (t + 2) 6) ∧ smW (codL cv rb) t most + absI (smW (codL cv rb) (t + 2) 6) ≤ 1000000000 := ⟨by omega, by omega, by omega⟩
  rcases codP_c hc with ⟨c, m, q, rfl, rfl, e, h3⟩ | ⟨s, m, y, q, wq, rfl, rfl, e, h3⟩
  · simp only [codL_o, codL_s] at *
    refine funW tabOk (E := [(83, s_smD), (84, s_neg), (115, (s_addTw (smW (seg q 0 m) t most) (absI (smW (seg q 0 m) (t + 2) 6))))]) ⟨ok_l05Small, ok_l01Neg, (ok_addTw _ _), trivial⟩ [] (k := 2) (fn := Try.f81) rfl rfl rfl rfl rfl rfl ?_
    by_cases hneg : smW (seg q 0 m) (t + 2) 6 < 0
    · have k1 : decide ((tw (smW (codL (.opt c 1 m 0) (.arrO (.int .u8) q 1)) (t + 2) 6)).1 < 0) = true := decide_eq_true (hsg.1.2 hneg)
      have ea : absI (smW (seg q 0 m) (t + 2) 6) = -smW (seg q 0 m) (t + 2) 6 := if_pos hneg
      have ew : (-(tw (smW (seg q 0 m) (t + 2) 6)).1, (tw (smW (seg q 0 m) (t + 2) 6)).2) = tw (absI (smW (seg q 0 m) (t + 2) 6)) := by rw [ea, tw_neg]
      (repeat' ((try (conv => whnf)); first | (with_reducible first | refine And.intro ?_ ?_ | refine WX.of ?_) | exact zc | ((with_reducible refine VC.mk ?_); exact zw) | ((with_reducible refine VC.mk ?_); exact ⟨⟨⟨⟨rfl, h3⟩, ht, rfl⟩, by omega⟩, h1, h2⟩) | ((with_reducible refine VC.mk ?_); exact ⟨⟨⟨⟨rfl, h3⟩, by omega, rfl⟩, by omega⟩, by decide, by decide⟩) | ((with_reducible refine VC.mk ?_); exact hs2) | ((with_reducible refine VC.mk ?_); exact ⟨⟨rfl, ew⟩, hadd⟩) | ((with_reducible refine splitT_of ?_ ?_); (focus (simp only [k1, Bool.not_true, Bool.not_false, decide_true, decide_false]; done))) | ((with_reducible refine splitF_of ?_ ?_); (focus (simp only [k1, Bool.not_true, Bool.not_false, decide_true, decide_false]; done))) | (with_reducible first | refine splitT ?_ | refine splitF ?_) | ((with_reducible refine splitM.mk (fun hsm => ?_) (fun hsm => ?_)) <;> (try exact zx)) | ((with_reducible refine splitB.mk (fun h => ?_) (fun h => ?_)) <;> (try simp only [zs, ne_eq] at h) <;> (try simp (disch := omega) only [w64] at h) <;> (try exact zx)) | (with_reducible intro hz; (try exact absurd hz (Nat.succ_ne_zero _)))))
      all_goals exact VC.mk (rowT hpos)
    · have k1 : decide ((tw (smW (codL (.opt c 1 m 0) (.arrO (.int .u8) q 1)) (t + 2) 6)).1 < 0) = false := decide_eq_false fun h => hneg (hsg.1.1 h)
      have ea : absI (smW (seg q 0 m) (t + 2) 6) = smW (seg q 0 m) (t + 2) 6 := if_neg hneg
      have ew : ((tw (smW (seg q 0 m) (t + 2) 6)).1, (tw (smW (seg q 0 m) (t + 2) 6)).2) = tw (absI (smW (seg q 0 m) (t + 2) 6)) := by rw [ea]
      (repeat' ((try (conv => whnf)); first | (with_reducible first | refine And.intro ?_ ?_ | refine WX.of ?_) | exact zc | ((with_reducible refine VC.mk ?_); exact zw) | ((with_reducible refine VC.mk ?_); exact ⟨⟨⟨⟨rfl, h3⟩, ht, rfl⟩, by omega⟩, h1, h2⟩) | ((with_reducible refine VC.mk ?_); exact ⟨⟨⟨⟨rfl, h3⟩, by omega, rfl⟩, by omega⟩, by decide, by decide⟩) | ((with_reducible refine VC.mk ?_); exact ⟨⟨rfl, ew⟩, hadd⟩) | ((with_reducible refine splitT_of ?_ ?_); (focus (simp only [k1, Bool.not_true, Bool.not_false, decide_true, decide_false]; done))) | ((with_reducible refine splitF_of ?_ ?_); (focus (simp only [k1, Bool.not_true, Bool.not_false, decide_true, decide_false]; done))) | (with_reducible first | refine splitT ?_ | refine splitF ?_) | ((with_reducible refine splitM.mk (fun hsm => ?_) (fun hsm => ?_)) <;> (try exact zx)) | ((with_reducible refine splitB.mk (fun h => ?_) (fun h => ?_)) <;> (try simp only [zs, ne_eq] at h) <;> (try simp (disch := omega) only [w64] at h) <;> (try exact zx)) | (with_reducible intro hz; (try exact absurd hz (Nat.succ_ne_zero _)))))
      all_goals exact VC.mk (rowT hpos)
  · simp only [codL_o, codL_s] at *
    refine funW tabOk (E := [(83, s_smD), (84, s_neg), (115, (s_addTw (smW (seg q s m) t most) (absI (smW (seg q s m) (t + 2) 6))))]) ⟨ok_l05Small, ok_l01Neg, (ok_addTw _ _), trivial⟩ [] (k := 2) (fn := Try.f81) rfl rfl rfl rfl rfl rfl ?_
    by_cases hneg : smW (seg q s m) (t + 2) 6 < 0
    · have k1 : decide ((tw (smW (codL (.sl 1 s m y) (.arr (.int .u8) q 1 wq)) (t + 2) 6)).1 < 0) = true := decide_eq_true (hsg.1.2 hneg)
      have ea : absI (smW (seg q s m) (t + 2) 6) = -smW (seg q s m) (t + 2) 6 := if_pos hneg
      have ew : (-(tw (smW (seg q s m) (t + 2) 6)).1, (tw (smW (seg q s m) (t + 2) 6)).2) = tw (absI (smW (seg q s m) (t + 2) 6)) := by rw [ea, tw_neg]
      (repeat' ((try (conv => whnf)); first | (with_reducible first | refine And.intro ?_ ?_ | refine WX.of ?_) | exact zc | ((with_reducible refine VC.mk ?_); exact zw) | ((with_reducible refine VC.mk ?_); exact ⟨⟨⟨⟨rfl, h3⟩, ht, rfl⟩, by omega⟩, h1, h2⟩) | ((with_reducible refine VC.mk ?_); exact ⟨⟨⟨⟨rfl, h3⟩, by omega, rfl⟩, by omega⟩, by decide, by decide⟩) | ((with_reducible refine VC.mk ?_); exact hs2) | ((with_reducible refine VC.mk ?_); exact ⟨⟨rfl, ew⟩, hadd⟩) | ((with_reducible refine splitT_of ?_ ?_); (focus (simp only [k1, Bool.not_true, Bool.not_false, decide_true, decide_false]; done))) | ((with_reducible refine splitF_of ?_ ?_); (focus (simp only [k1, Bool.not_true, Bool.not_false, decide_true, decide_false]; done))) | (with_reducible first | refine splitT ?_ | refine splitF ?_) | ((with_reducible refine splitM.mk (fun hsm => ?_) (fun hsm => ?_)) <;> (try exact zx)) | ((with_reducible refine splitB.mk (fun h => ?_) (fun h => ?_)) <;> (try simp only [zs, ne_eq] at h) <;> (try simp (disch := omega) only [w64] at h) <;> (try exact zx)) | (with_reducible intro hz; (try exact absurd hz (Nat.succ_ne_zero _)))))
      all_goals exact VC.mk (rowT hpos)
    · have k1 : decide ((tw (smW (codL (.sl 1 s m y) (.arr (.int .u8) q 1 wq)) (t + 2) 6)).1 < 0) = false := decide_eq_false fun h => hneg (hsg.1.1 h)
      have ea : absI (smW (seg q s m) (t + 2) 6) = smW (seg q s m) (t + 2) 6 := if_neg hneg
      have ew : ((tw (smW (seg q s m) (t + 2) 6)).1, (tw (smW (seg q s m) (t + 2) 6)).2) = tw (absI (smW (seg q s m) (t + 2) 6)) := by rw [ea]
      (repeat' ((try (conv => whnf)); first | (with_reducible first | refine And.intro ?_ ?_ | refine WX.of ?_) | exact zc | ((with_reducible refine VC.mk ?_); exact zw) | ((with_reducible refine VC.mk ?_); exact ⟨⟨⟨⟨rfl, h3⟩, ht, rfl⟩, by omega⟩, h1, h2⟩) | ((with_reducible refine VC.mk ?_); exact ⟨⟨⟨⟨rfl, h3⟩, by omega, rfl⟩, by omega⟩, by decide, by decide⟩) | ((with_reducible refine VC.mk ?_); exact ⟨⟨rfl, ew⟩, hadd⟩) | ((with_reducible refine splitT_of ?_ ?_); (focus (simp only [k1, Bool.not_true, Bool.not_false, decide_true, decide_false]; done))) | ((with_reducible refine splitF_of ?_ ?_); (focus (simp only [k1, Bool.not_true, Bool.not_false, decide_true, decide_false]; done))) | (with_reducible first | refine splitT ?_ | refine splitF ?_) | ((with_reducible refine splitM.mk (fun hsm => ?_) (fun hsm => ?_)) <;> (try exact zx)) | ((with_reducible refine splitB.mk (fun h => ?_) (fun h => ?_)) <;> (try simp only [zs, ne_eq] at h) <;> (try simp (disch := omega) only [w64] at h) <;> (try exact zx)) | (with_reducible intro hz; (try exact absurd hz (Nat.succ_ne_zero _)))))
      all_goals exact VC.mk (rowT hpos)
end Go.Proofs.Ytnmpgofhdjcpaaa.Eng
