/- Lemmas for the proof, no conditions of their own. -/
import Derived.Test.YtinaincgimoanaaDoorQA3
set_option linter.unusedVariables false
set_option linter.unusedSimpArgs false
namespace Go.Proofs.YtinaincgimoanaaDoor.Eng
open Go Go.RowKit
set_option maxRecDepth 100000
def s_good : Spec := fun args S => match args, S with
  | [.agg [.str nm, .int .i64 fr, .int .i64 p, .int .i64 q, .int .i64 p', .int .i64 q', .int .i64 dp, .int .i64 dq, .int .i64 md, .int .i64 gd], .int .i64 d], [] => ⟨(0 ≤ md ∧ md ≤ 100000) ∧ 0 ≤ gd ∧ gd ≤ 100000, .bool (gdB (nm, fr, ((p, q), p', q'), (dp, dq), md, gd) d), []⟩
  | _, _ => noSpec
theorem ok_good : SpecOk Tryd.prog 109 s_good := by
  intro args S h; unfold s_good at h ⊢; (split at h <;> first | exact False.elim h | skip)
  dsimp only at h ⊢
  refine funW tabOk (E := [(47, s_within)]) ⟨ok_within, trivial⟩ [] (k := 0) (fn := Tryd.f109) rfl rfl rfl rfl rfl rfl ?_
  (repeat' ((try (conv => whnf)); first | (with_reducible first | refine And.intro ?_ ?_ | refine WX.of ?_) | exact zc | ((with_reducible refine VC.mk ?_); exact zw) | (with_reducible first | refine splitT ?_ | refine splitF ?_) | ((with_reducible refine splitM.mk (fun hsm => ?_) (fun hsm => ?_)) <;> (try exact zx)) | ((with_reducible refine splitB.mk (fun h => ?_) (fun h => ?_)) <;> (try simp only [zs, ne_eq] at h) <;> (try simp (disch := omega) only [w64] at h) <;> (try exact zx)) | (with_reducible intro hz; (try exact absurd hz (Nat.succ_ne_zero _)))))
  all_goals (refine ⟨?_⟩; simp (disch := omega) only [w64]; rfl)
theorem bd2 {a b : Int} (h : (0 ≤ a ∧ a ≤ 100000) ∧ 0 ≤ b ∧ b ≤ 100000) : (0 ≤ a ∧ a ≤ 100000) ∧ 0 ≤ b ∧ b ≤ 100000 := h
def s_l05Good : Spec := fun args S => match args, S with
  | [.ptr 0 i 0, .int .i64 d], [.arr (.prod .str (.prod (.int .i64) (.prod (.prod (.prod (.int .i64) (.int .i64)) (.prod (.int .i64) (.int .i64))) (.prod (.prod (.int .i64) (.int .i64)) (.prod (.int .i64) (.int .i64)))))) l 10 wr] => ⟨i < l.length ∧ (0 ≤ ((l[i]?).getD stD).2.2.2.2.1 ∧ ((l[i]?).getD stD).2.2.2.2.1 ≤ 100000) ∧ 0 ≤ ((l[i]?).getD stD).2.2.2.2.2 ∧ ((l[i]?).getD stD).2.2.2.2.2 ≤ 100000, .bool (gdB ((l[i]?).getD stD) d), [.arr (.prod .str (.prod (.int .i64) (.prod (.prod (.prod (.int .i64) (.int .i64)) (.prod (.int .i64) (.int .i64))) (.prod (.prod (.int .i64) (.int .i64)) (.prod (.int .i64) (.int .i64)))))) l 10 wr]⟩
  | _, _ => noSpec
theorem ok_l05Good : SpecOk Tryd.prog 146 s_l05Good := by
  intro args S h; unfold s_l05Good at h ⊢; (split at h <;> first | exact False.elim h | skip)
  dsimp only at h ⊢
  rename_i i d l wr
  obtain ⟨hi, hb⟩ := h
  obtain ⟨⟨nm, fr, ⟨⟨p, q⟩, p', q'⟩, ⟨dp, dq⟩, md, gd⟩, ha⟩ := get_some hi
  rw [show (l[i]?).getD stD = (nm, fr, ((p, q), p', q'), (dp, dq), md, gd) from by rw [ha]; rfl] at hb ⊢
  have hb := bd2 hb
  dsimp only at hb
  refine funW tabOk (E := []) trivial [] (k := 1) (fn := Tryd.f146) rfl rfl rfl rfl rfl rfl ?_
  (repeat' ((try (conv => whnf)); first | (with_reducible first | refine And.intro ?_ ?_ | refine WX.of ?_) | exact zc | ((with_reducible refine VC.mk ?_); exact zw) | with_reducible refine atL_p ha ?_ | (with_reducible first | refine splitT ?_ | refine splitF ?_) | ((with_reducible refine splitM.mk (fun hsm => ?_) (fun hsm => ?_)) <;> (try exact zx)) | ((with_reducible refine splitB.mk (fun h => ?_) (fun h => ?_)) <;> (try simp only [zs, ne_eq] at h) <;> (try simp (disch := omega) only [w64] at h) <;> (try exact zx)) | (with_reducible intro hz; (try exact absurd hz (Nat.succ_ne_zero _)))))
  all_goals (refine ⟨congrArg SV.bool ?_⟩; unfold gdB; (try simp (disch := omega) only [w64]); first | (simp; omega) | (rw [Bool.eq_iff_iff]; simp; omega))
def s_l05Day : Spec := fun args S => match args, S with
  | [.int .i64 d], [] => ⟨True, .bool (dyB d), []⟩
  | _, _ => noSpec
theorem ok_l05Day : SpecOk Tryd.prog 145 s_l05Day := by
  intro args S h; unfold s_l05Day at h ⊢; (split at h <;> first | exact False.elim h | skip)
  dsimp only at h ⊢
  refine funW tabOk (E := [(75, s_within)]) ⟨ok_l00In, trivial⟩ [] (k := 0) (fn := Tryd.f145) rfl rfl rfl rfl rfl rfl ?_
  (repeat' ((try (conv => whnf)); first | (with_reducible first | refine And.intro ?_ ?_ | refine WX.of ?_) | exact zc | ((with_reducible refine VC.mk ?_); exact zw) | (with_reducible first | refine splitT ?_ | refine splitF ?_) | ((with_reducible refine splitM.mk (fun hsm => ?_) (fun hsm => ?_)) <;> (try exact zx)) | ((with_reducible refine splitB.mk (fun h => ?_) (fun h => ?_)) <;> (try simp only [zs, ne_eq] at h) <;> (try simp (disch := omega) only [w64] at h) <;> (try exact zx)) | (with_reducible intro hz; (try exact absurd hz (Nat.succ_ne_zero _)))))
/-- The span of a standard, by its pointer. -/
def s_l01SpanV : Spec := fun args S => match args, S with
  | [.ptr 0 i 2], [.arr (.prod .str (.prod (.int .i64) (.prod (.prod (.prod (.int .i64) (.int .i64)) (.prod (.int .i64) (.int .i64))) (.prod (.prod (.int .i64) (.int .i64)) (.prod (.int .i64) (.int .i64)))))) l 10 wr] => ⟨i < l.length, .bool (spB ((l[i]?).getD stD).2.2.1), [.arr (.prod .str (.prod (.int .i64) (.prod (.prod (.prod (.int .i64) (.int .i64)) (.prod (.int .i64) (.int .i64))) (.prod (.prod (.int .i64) (.int .i64)) (.prod (.int .i64) (.int .i64)))))) l 10 wr]⟩
  | _, _ => noSpec
theorem ok_l01SpanV : SpecOk Tryd.prog 97 s_l01SpanV := by
  intro args S h; unfold s_l01SpanV at h ⊢; (split at h <;> first | exact False.elim h | skip)
  dsimp only at h ⊢
  rename_i i l wr
  obtain ⟨⟨nm, fr, ⟨⟨p, q⟩, p', q'⟩, ⟨dp, dq⟩, md, gd⟩, ha⟩ := get_some h
  rw [show (l[i]?).getD stD = (nm, fr, ((p, q), p', q'), (dp, dq), md, gd) from by rw [ha]; rfl]
  have hc := cmpF_le (p := p) (q := q) (p' := p') (q' := q')
  refine funW tabOk (E := [(131, s_fOk), (142, s_cmp)]) ⟨ok_l01Ok, ok_l01Cmp, trivial⟩ [] (k := 1) (fn := Tryd.f97) rfl rfl rfl rfl rfl rfl ?_
  (repeat' ((try (conv => whnf)); first | (with_reducible first | refine And.intro ?_ ?_ | refine WX.of ?_) | exact zc | ((with_reducible refine VC.mk ?_); exact zw) | with_reducible refine atL_p ha ?_ | (with_reducible first | refine splitT ?_ | refine splitF ?_) | ((with_reducible refine splitM.mk (fun hsm => ?_) (fun hsm => ?_)) <;> (try exact zx)) | ((with_reducible refine splitB.mk (fun h => ?_) (fun h => ?_)) <;> (try simp only [zs, ne_eq] at h) <;> (try simp (disch := omega) only [w64] at h) <;> (try exact zx)) | (with_reducible intro hz; (try exact absurd hz (Nat.succ_ne_zero _)))))
  · rename_i h1
    exact ⟨⟨smF_ok h1, smF_ok h⟩⟩
  · rename_i h1
    exact ⟨congrArg SV.bool (by unfold spB spOk; dsimp only; rw [h1, h]; simp only [hc, Bool.true_and])⟩
  · rename_i h1
    exact ⟨congrArg SV.bool (by unfold spB spOk; dsimp only; rw [h1, h]; rfl)⟩
  · exact ⟨congrArg SV.bool (by unfold spB spOk; dsimp only; rw [h]; rfl)⟩
def s_clCh : Spec := fun args S => match args, S with
  | [.agg [.str nm, .int .i64 fr, .int .i64 p, .int .i64 q, .int .i64 p', .int .i64 q', .int .i64 dp, .int .i64 dq, .int .i64 md, .int .i64 gd], .ptr 0 0 0], [.arr (.prod .str (.prod (.int .i64) (.prod (.prod (.prod (.int .i64) (.int .i64)) (.prod (.int .i64) (.int .i64))) (.prod (.prod (.int .i64) (.int .i64)) (.prod (.int .i64) (.int .i64)))))) [o] 0 true] => ⟨True, .bool (decide (nm = o.1)), [.arr (.prod .str (.prod (.int .i64) (.prod (.prod (.prod (.int .i64) (.int .i64)) (.prod (.int .i64) (.int .i64))) (.prod (.prod (.int .i64) (.int .i64)) (.prod (.int .i64) (.int .i64)))))) [o] 0 true]⟩
  | _, _ => noSpec
theorem ok_ValidChain1 : SpecOk Tryd.prog 108 s_clCh := by
  intro args S h; unfold s_clCh at h ⊢; (split at h <;> first | exact False.elim h | skip)
  dsimp only at h ⊢
  refine funW tabOk (E := []) trivial [] (k := 1) (fn := Tryd.f108) rfl rfl rfl rfl rfl rfl ?_
  (repeat' ((try (conv => whnf)); first | (with_reducible first | refine And.intro ?_ ?_ | refine WX.of ?_) | exact zc | ((with_reducible refine VC.mk ?_); exact zw) | (with_reducible first | refine splitT ?_ | refine splitF ?_) | ((with_reducible refine splitM.mk (fun hsm => ?_) (fun hsm => ?_)) <;> (try exact zx)) | ((with_reducible refine splitB.mk (fun h => ?_) (fun h => ?_)) <;> (try simp only [zs, ne_eq] at h) <;> (try simp (disch := omega) only [w64] at h) <;> (try exact zx)) | (with_reducible intro hz; (try exact absurd hz (Nat.succ_ne_zero _)))))
def s_idxCh (g : Nat) : Spec := fun args S => match args, S with
  | [.sl 0 q0 n0 x0, .fn g' [.ptr 1 0 0]], [.arr (.prod .str (.prod (.int .i64) (.prod (.prod (.prod (.int .i64) (.int .i64)) (.prod (.int .i64) (.int .i64))) (.prod (.prod (.int .i64) (.int .i64)) (.prod (.int .i64) (.int .i64)))))) l0 10 wr0, .arr (.prod .str (.prod (.int .i64) (.prod (.prod (.prod (.int .i64) (.int .i64)) (.prod (.int .i64) (.int .i64))) (.prod (.prod (.int .i64) (.int .i64)) (.prod (.int .i64) (.int .i64)))))) [o] 0 true] => ⟨g' = g ∧ (q0 + n0 ≤ l0.length ∧ n0 ≤ 4611686018427387904) ∧ True, .int .i64 (findI (fun a : StT => decide (a.1 = o.1)) (seg l0 q0 n0)), [.arr (.prod .str (.prod (.int .i64) (.prod (.prod (.prod (.int .i64) (.int .i64)) (.prod (.int .i64) (.int .i64))) (.prod (.prod (.int .i64) (.int .i64)) (.prod (.int .i64) (.int .i64)))))) l0 10 wr0, .arr (.prod .str (.prod (.int .i64) (.prod (.prod (.prod (.int .i64) (.int .i64)) (.prod (.int .i64) (.int .i64))) (.prod (.prod (.int .i64) (.int .i64)) (.prod (.int .i64) (.int .i64)))))) [o] 0 true]⟩
  | _, _ => noSpec
theorem ok_idxCh : SpecOk Tryd.prog 147 (s_idxCh 108) := by
  intro args S h; unfold s_idxCh at h ⊢; (split at h <;> first | exact False.elim h | skip)
  dsimp only at h ⊢
  rename_i q0 n0 x0 g l0 wr0 o
  obtain ⟨rfl, ⟨h1, h2⟩, hcp⟩ := h
  have hL := seg_len h1
  refine funW tabOk (E := [(108, s_clCh)]) ⟨ok_ValidChain1, trivial⟩ [] (k := 2) (fn := Tryd.f147) rfl rfl rfl rfl rfl rfl ?_
  (repeat' ((try (conv => whnf)); first | (with_reducible first | refine And.intro ?_ ?_ | refine WX.of ?_) | exact zc | ((with_reducible refine VC.mk ?_); exact zw) | (with_reducible first | refine splitT ?_ | refine splitF ?_) | ((with_reducible refine splitM.mk (fun hsm => ?_) (fun hsm => ?_)) <;> (try exact zx)) | ((with_reducible refine splitB.mk (fun h => ?_) (fun h => ?_)) <;> (try simp only [zs, ne_eq] at h) <;> (try simp (disch := omega) only [w64] at h) <;> (try exact zx)) | (with_reducible intro hz; (try exact absurd hz (Nat.succ_ne_zero _)))))
  refine loopW tabOk (E := [(108, s_clCh)]) ⟨ok_ValidChain1, trivial⟩ [] (σ := Nat) (fun i => [(0, .sl 0 q0 n0 x0), (1, .fn 108 [.ptr 1 0 0]), (7, .int .i64 n0), (8, .int .i64 i)]) (fun i => [.arr (.prod .str (.prod (.int .i64) (.prod (.prod (.prod (.int .i64) (.int .i64)) (.prod (.int .i64) (.int .i64))) (.prod (.prod (.int .i64) (.int .i64)) (.prod (.int .i64) (.int .i64)))))) l0 10 wr0, .arr (.prod .str (.prod (.int .i64) (.prod (.prod (.prod (.int .i64) (.int .i64)) (.prod (.int .i64) (.int .i64))) (.prod (.prod (.int .i64) (.int .i64)) (.prod (.int .i64) (.int .i64)))))) [o] 0 true]) (fun i => n0 - i) (fun i => i ≤ n0 ∧ ∀ (j : Nat) a, j < i → (seg l0 q0 n0)[j]? = some a → (fun a : StT => decide (a.1 = o.1)) a = false) 0 ⟨Nat.zero_le _, fun j a hj => by omega⟩ ?_ ?_
  · (repeat' ((try (conv => whnf)); first | (with_reducible first | refine And.intro ?_ ?_ | refine WX.of ?_) | exact zc | ((with_reducible refine VC.mk ?_); exact zw) | (with_reducible first | refine splitT ?_ | refine splitF ?_) | ((with_reducible refine splitM.mk (fun hsm => ?_) (fun hsm => ?_)) <;> (try exact zx)) | ((with_reducible refine splitB.mk (fun h => ?_) (fun h => ?_)) <;> (try simp only [zs, ne_eq] at h) <;> (try simp (disch := omega) only [w64] at h) <;> (try exact zx)) | (with_reducible intro hz; (try exact absurd hz (Nat.succ_ne_zero _)))))
  · intro ii ⟨hi, hp⟩
    by_cases hlt : ii < n0
    · obtain ⟨⟨nm, fr, ⟨⟨p, q⟩, p', q'⟩, ⟨dp, dq⟩, md, gd⟩, ha⟩ := get_some (l := seg l0 q0 n0) (i := ii) (by omega)
      (repeat' ((try (conv => whnf)); first | (with_reducible first | refine And.intro ?_ ?_ | refine WX.of ?_) | exact zc | ((with_reducible refine VC.mk ?_); exact zw) | refine atL_i ha ?_ | ((with_reducible refine VC.mk ?_); exact hcp) | (with_reducible first | refine splitT ?_ | refine splitF ?_) | ((with_reducible refine splitM.mk (fun hsm => ?_) (fun hsm => ?_)) <;> (try exact zx)) | ((with_reducible refine splitB.mk (fun h => ?_) (fun h => ?_)) <;> (try simp only [zs, ne_eq] at h) <;> (try simp (disch := omega) only [w64] at h) <;> (try exact zx)) | (with_reducible intro hz; (try exact absurd hz (Nat.succ_ne_zero _)))))
      · exact ⟨by rw [findI_some ha (by first | (simpa [decide_eq_true_eq] using h; done) | (simp [decide_eq_true_eq] at h ⊢; omega)) hp]⟩
      · refine ⟨ii + 1, by omega, ⟨hlt, upto_step ha (by first | (simpa [decide_eq_true_eq] using h; done) | (simp [decide_eq_true_eq] at h ⊢; omega)) hp⟩, ?_⟩
        (repeat' ((try (conv => whnf)); first | (with_reducible first | refine And.intro ?_ ?_ | refine WX.of ?_) | exact zc | ((with_reducible refine VC.mk ?_); exact zw) | (with_reducible first | refine splitT ?_ | refine splitF ?_) | ((with_reducible refine splitM.mk (fun hsm => ?_) (fun hsm => ?_)) <;> (try exact zx)) | ((with_reducible refine splitB.mk (fun h => ?_) (fun h => ?_)) <;> (try simp only [zs, ne_eq] at h) <;> (try simp (disch := omega) only [w64] at h) <;> (try exact zx)) | (with_reducible intro hz; (try exact absurd hz (Nat.succ_ne_zero _)))))
    · (repeat' ((try (conv => whnf)); first | (with_reducible first | refine And.intro ?_ ?_ | refine WX.of ?_) | exact zc | ((with_reducible refine VC.mk ?_); exact zw) | (with_reducible first | refine splitT ?_ | refine splitF ?_) | ((with_reducible refine splitM.mk (fun hsm => ?_) (fun hsm => ?_)) <;> (try exact zx)) | ((with_reducible refine splitB.mk (fun h => ?_) (fun h => ?_)) <;> (try simp only [zs, ne_eq] at h) <;> (try simp (disch := omega) only [w64] at h) <;> (try exact zx)) | (with_reducible intro hz; (try exact absurd hz (Nat.succ_ne_zero _)))))
      exact ⟨by rw [findI_none fun j a hj => hp j a (by have := (List.getElem?_eq_some_iff.1 hj).1; omega) hj]⟩
def s_anyCh (g : Nat) : Spec := fun args S => match args, S with
  | [.sl 0 q0 n0 x0, .fn g' [.ptr 1 0 0]], [.arr (.prod .str (.prod (.int .i64) (.prod (.prod (.prod (.int .i64) (.int .i64)) (.prod (.int .i64) (.int .i64))) (.prod (.prod (.int .i64) (.int .i64)) (.prod (.int .i64) (.int .i64)))))) l0 10 wr0, .arr (.prod .str (.prod (.int .i64) (.prod (.prod (.prod (.int .i64) (.int .i64)) (.prod (.int .i64) (.int .i64))) (.prod (.prod (.int .i64) (.int .i64)) (.prod (.int .i64) (.int .i64)))))) [o] 0 true] => ⟨g' = g ∧ (q0 + n0 ≤ l0.length ∧ n0 ≤ 4611686018427387904) ∧ True, .bool ((seg l0 q0 n0).any (fun a : StT => decide (a.1 = o.1))), [.arr (.prod .str (.prod (.int .i64) (.prod (.prod (.prod (.int .i64) (.int .i64)) (.prod (.int .i64) (.int .i64))) (.prod (.prod (.int .i64) (.int .i64)) (.prod (.int .i64) (.int .i64)))))) l0 10 wr0, .arr (.prod .str (.prod (.int .i64) (.prod (.prod (.prod (.int .i64) (.int .i64)) (.prod (.int .i64) (.int .i64))) (.prod (.prod (.int .i64) (.int .i64)) (.prod (.int .i64) (.int .i64)))))) [o] 0 true]⟩
  | _, _ => noSpec
theorem ok_anyCh : SpecOk Tryd.prog 107 (s_anyCh 108) := by
  intro args S h; unfold s_anyCh at h ⊢; (split at h <;> first | exact False.elim h | skip)
  dsimp only at h ⊢
  rename_i q0 n0 x0 g l0 wr0 o
  obtain ⟨rfl, h1, h2⟩ := h
  refine funW tabOk (E := [(147, (s_idxCh 108))]) ⟨ok_idxCh, trivial⟩ [] (k := 2) (fn := Tryd.f107) rfl rfl rfl rfl rfl rfl ?_
  (repeat' ((try (conv => whnf)); first | (with_reducible first | refine And.intro ?_ ?_ | refine WX.of ?_) | exact zc | ((with_reducible refine VC.mk ?_); exact zw) | ((with_reducible refine VC.mk ?_); exact ⟨rfl, h1, h2⟩) | (with_reducible first | refine splitT ?_ | refine splitF ?_) | ((with_reducible refine splitM.mk (fun hsm => ?_) (fun hsm => ?_)) <;> (try exact zx)) | ((with_reducible refine splitB.mk (fun h => ?_) (fun h => ?_)) <;> (try simp only [zs, ne_eq] at h) <;> (try simp (disch := omega) only [w64] at h) <;> (try exact zx)) | (with_reducible intro hz; (try exact absurd hz (Nat.succ_ne_zero _)))))
  exact ⟨by rw [findI_any]⟩
theorem s3_take {L : List StT} {i : Nat} {x : StT} (hi : i ≤ L.length) : s3B (L.take i) i x = s3B L i x := by
  unfold s3B
  by_cases h : -1 ≤ x.2.1 ∧ x.2.1 ≤ (i : Int) - 1
  · by_cases h0 : x.2.1 < 0
    · simp [h0]
    · have : stAt (L.take i) x.2.1 = stAt L x.2.1 := by
        unfold stAt; rw [List.getElem?_take, if_pos (by omega)]
      rw [this]
  · simp [h]
/-- A standard behind n others. -/
def s_l05Std : Spec := fun args S => match args, S with
  | [.sl 0 s n x, .ptr 0 i 0], [.arr (.prod .str (.prod (.int .i64) (.prod (.prod (.prod (.int .i64) (.int .i64)) (.prod (.int .i64) (.int .i64))) (.prod (.prod (.int .i64) (.int .i64)) (.prod (.int .i64) (.int .i64)))))) l 10 wr] => ⟨s + n ≤ l.length ∧ n ≤ 1048576 ∧ i < l.length ∧ ∀ (j : Nat) (a : StT), (seg l s n)[j]? = some a → s2B a = true, .bool (s2B ((l[i]?).getD stD) && s3B (seg l s n) n ((l[i]?).getD stD)), [.arr (.prod .str (.prod (.int .i64) (.prod (.prod (.prod (.int .i64) (.int .i64)) (.prod (.int .i64) (.int .i64))) (.prod (.prod (.int .i64) (.int .i64)) (.prod (.int .i64) (.int .i64)))))) l 10 wr]⟩
  | _, _ => noSpec
theorem s2_of {x : StT} (h : s2B x = true) : (0 ≤ x.2.2.2.2.1 ∧ x.2.2.2.2.1 ≤ 100000) ∧ 0 ≤ x.2.2.2.2.2 ∧ x.2.2.2.2.2 ≤ 100000 := by
  unfold s2B dyB at h; simp only [Bool.and_eq_true, decide_eq_true_eq] at h; exact ⟨h.1.2, h.2⟩
theorem in_em (a : Int) (n : Nat) : (0 ≤ a ∧ a ≤ (n : Int) - 1) ∨ ¬ (0 ≤ a ∧ a ≤ (n : Int) - 1) := Decidable.em _
theorem s3_neg {L : List StT} {n : Nat} {x : StT} (h : x.2.1 = -1) : s3B L n x = true := by
  unfold s3B
  rw [decide_eq_true (show -1 ≤ x.2.1 ∧ x.2.1 ≤ (n : Int) - 1 from ⟨by omega, by omega⟩), decide_eq_true (show x.2.1 < 0 by omega)]; rfl
theorem s3_in {L : List StT} {n : Nat} {x : StT} (h : 0 ≤ x.2.1 ∧ x.2.1 ≤ (n : Int) - 1) : s3B L n x = gdB (stAt L x.2.1) x.2.2.2.2.1 := by
  unfold s3B
  rw [decide_eq_true (show -1 ≤ x.2.1 ∧ x.2.1 ≤ (n : Int) - 1 from ⟨by omega, by omega⟩), decide_eq_false (show ¬ x.2.1 < 0 by omega)]; rfl
theorem s3_out {L : List StT} {n : Nat} {x : StT} (h : ¬ x.2.1 = -1) (h2 : ¬ (0 ≤ x.2.1 ∧ x.2.1 ≤ (n : Int) - 1)) : s3B L n x = false := by
  unfold s3B
  rw [decide_eq_false (show ¬ (-1 ≤ x.2.1 ∧ x.2.1 ≤ (n : Int) - 1) by omega)]; rfl
theorem ok_l05Standard : SpecOk Tryd.prog 105 s_l05Std := by
  intro args S h; unfold s_l05Std at h ⊢; (split at h <;> first | exact False.elim h | skip)
  dsimp only at h ⊢
  rename_i s n x i l wr
  obtain ⟨h1, h2, hi, hb⟩ := h
  have hL := seg_len h1
  obtain ⟨⟨nm, fr, ⟨⟨p, q⟩, p', q'⟩, ⟨dp, dq⟩, md, gd⟩, ha⟩ := get_some hi
  have e : (l[i]?).getD stD = (nm, fr, ((p, q), p', q'), (dp, dq), md, gd) := by rw [ha]; rfl
  have hsp : spB ((l[i]?).getD stD).2.2.1 = spB ((p, q), p', q') := by rw [e]
  rcases in_em fr n with hin | hin
  · obtain ⟨y, hy⟩ := get_some (l := seg l s n) (i := fr.toNat) (by omega)
    have hyb := s2_of (hb _ _ hy)
    have hyl := (seg_get hy).1
    have hey : (l[s + fr.toNat]?).getD stD = y := by rw [hyl]; rfl
    have hay : stAt (seg l s n) fr = y := stAt_z hy
    have h3 : s3B (seg l s n) n (nm, fr, ((p, q), p', q'), (dp, dq), md, gd) = gdB y md := by rw [s3_in (by exact hin)]; dsimp only; rw [hay]
    rw [e]
    refine funW tabOk (E := [(97, s_l01SpanV), (131, s_fOk), (145, s_l05Day), (75, s_within), (146, s_l05Good)]) ⟨ok_l01SpanV, ok_l01Ok, ok_l05Day, ok_l00In, ok_l05Good, trivial⟩ [] (k := 1) (fn := Tryd.f105) rfl rfl rfl rfl rfl rfl ?_
    (repeat' ((try (conv => whnf)); first | (with_reducible first | refine And.intro ?_ ?_ | refine WX.of ?_) | exact zc | ((with_reducible refine VC.mk ?_); exact zw) | with_reducible refine atL_p ha ?_ | ((with_reducible refine VC.mk ?_); exact ⟨(List.getElem?_eq_some_iff.1 hyl).1, by rw [hey]; exact hyb⟩) | (with_reducible first | refine splitT ?_ | refine splitF ?_) | ((with_reducible refine splitM.mk (fun hsm => ?_) (fun hsm => ?_)) <;> (try exact zx)) | ((with_reducible refine splitB.mk (fun h => ?_) (fun h => ?_)) <;> (try simp only [zs, ne_eq] at h) <;> (try simp (disch := omega) only [w64] at h) <;> (try exact zx)) | (with_reducible intro hz; (try exact absurd hz (Nat.succ_ne_zero _)))))
    all_goals (refine ⟨congrArg SV.bool ?_⟩; (try rw [hsp] at *); (try dsimp only at *); rw [h3]; (try rw [hey]); first | (exfalso; omega) | (unfold s2B; dsimp only; simp [*]; done) | (unfold s2B; dsimp only; simp [*]; intros; omega))
  · have h3 : s3B (seg l s n) n (nm, fr, ((p, q), p', q'), (dp, dq), md, gd) = decide (fr = -1) := by
      by_cases h4 : fr = -1
      · rw [s3_neg (by exact h4), decide_eq_true h4]
      · rw [s3_out (by exact h4) (by exact hin), decide_eq_false h4]
    rw [e]
    refine funW tabOk (E := [(97, s_l01SpanV), (131, s_fOk), (145, s_l05Day), (75, s_within), (146, s_l05Good)]) ⟨ok_l01SpanV, ok_l01Ok, ok_l05Day, ok_l00In, ok_l05Good, trivial⟩ [] (k := 1) (fn := Tryd.f105) rfl rfl rfl rfl rfl rfl ?_
    (repeat' ((try (conv => whnf)); first | (with_reducible first | refine And.intro ?_ ?_ | refine WX.of ?_) | exact zc | ((with_reducible refine VC.mk ?_); exact zw) | with_reducible refine atL_p ha ?_ | (with_reducible first | refine splitT ?_ | refine splitF ?_) | ((with_reducible refine splitM.mk (fun hsm => ?_) (fun hsm => ?_)) <;> (try exact zx)) | ((with_reducible refine splitB.mk (fun h => ?_) (fun h => ?_)) <;> (try simp only [zs, ne_eq] at h) <;> (try simp (disch := omega) only [w64] at h) <;> (try exact zx)) | (with_reducible intro hz; (try exact absurd hz (Nat.succ_ne_zero _)))))
    all_goals (first | (exfalso; omega) | (refine ⟨congrArg SV.bool ?_⟩; (try rw [hsp] at *); (try dsimp only at *); rw [h3]; unfold s2B; dsimp only; simp [*]; done) | (refine ⟨congrArg SV.bool ?_⟩; rw [h3]; unfold s2B; dsimp only; simp [*]; intros; omega))
def s_l05Ok : Spec := fun args S => match args, S with
  | [.sl 0 s n x], [.arr (.prod .str (.prod (.int .i64) (.prod (.prod (.prod (.int .i64) (.int .i64)) (.prod (.int .i64) (.int .i64))) (.prod (.prod (.int .i64) (.int .i64)) (.prod (.int .i64) (.int .i64)))))) l 10 wr] => ⟨(s + n ≤ l.length ∧ n ≤ 1048576) ∧ ∀ (j : Nat) (a : StT), l[j]? = some a → a.1.length < 9223372036854775808, .bool (chB (seg l s n)), [.arr (.prod .str (.prod (.int .i64) (.prod (.prod (.prod (.int .i64) (.int .i64)) (.prod (.int .i64) (.int .i64))) (.prod (.prod (.int .i64) (.int .i64)) (.prod (.int .i64) (.int .i64)))))) l 10 wr]⟩
  | _, _ => noSpec
theorem seg_atD {α : Type} {l : List α} {s n i : Nat} {a : α} {d : α} (h : (seg l s n)[i]? = some a) : (l[s + i]?).getD d = a := by rw [(seg_get h).1]; rfl
theorem ok_l05Ok : SpecOk Tryd.prog 53 s_l05Ok := by
  intro args S h; unfold s_l05Ok at h ⊢; (split at h <;> first | exact False.elim h | skip)
  dsimp only at h ⊢
  rename_i s n x l wr
  obtain ⟨⟨h1, h2⟩, ho⟩ := h
  have hL := seg_len h1
  refine funW tabOk (E := [(104, s_word), (105, s_l05Std)]) ⟨ok_l05Name, ok_l05Standard, trivial⟩ [] (k := 1) (fn := Tryd.f53) rfl rfl rfl rfl rfl rfl ?_
  (repeat' ((try (conv => whnf)); first | (with_reducible first | refine And.intro ?_ ?_ | refine WX.of ?_) | exact zc | ((with_reducible refine VC.mk ?_); exact zw) | (with_reducible first | refine splitT ?_ | refine splitF ?_) | ((with_reducible refine splitM.mk (fun hsm => ?_) (fun hsm => ?_)) <;> (try exact zx)) | ((with_reducible refine splitB.mk (fun h => ?_) (fun h => ?_)) <;> (try simp only [zs, ne_eq] at h) <;> (try simp (disch := omega) only [w64] at h) <;> (try exact zx)) | (with_reducible intro hz; (try exact absurd hz (Nat.succ_ne_zero _)))))
  · exact ⟨congrArg SV.bool (by unfold chB; rw [hL, show decide (n ≤ 30) = false from decide_eq_false (by omega), Bool.and_false])⟩
  · have hn30 := h
    refine loopW tabOk (E := [(104, s_word), (105, s_l05Std)]) ⟨ok_l05Name, ok_l05Standard, trivial⟩ [] (σ := Nat) (fun i => [(0, .sl 0 s n x), (3, .int .i64 i)]) (fun i => [.arr (.prod .str (.prod (.int .i64) (.prod (.prod (.prod (.int .i64) (.int .i64)) (.prod (.int .i64) (.int .i64))) (.prod (.prod (.int .i64) (.int .i64)) (.prod (.int .i64) (.int .i64)))))) l 10 wr]) (fun i => n - i) (fun i => i ≤ n ∧ ∀ (j : Nat) (a : StT), j < i → (seg l s n)[j]? = some a → stB (seg l s n) j a = true) 0 ⟨Nat.zero_le _, fun j a hj => by omega⟩ ?_ ?_
    · (repeat' ((try (conv => whnf)); first | (with_reducible first | refine And.intro ?_ ?_ | refine WX.of ?_) | exact zc | ((with_reducible refine VC.mk ?_); exact zw) | (with_reducible first | refine splitT ?_ | refine splitF ?_) | ((with_reducible refine splitM.mk (fun hsm => ?_) (fun hsm => ?_)) <;> (try exact zx)) | ((with_reducible refine splitB.mk (fun h => ?_) (fun h => ?_)) <;> (try simp only [zs, ne_eq] at h) <;> (try simp (disch := omega) only [w64] at h) <;> (try exact zx)) | (with_reducible intro hz; (try exact absurd hz (Nat.succ_ne_zero _)))))
    · intro i ⟨hi, hp⟩
      by_cases hlt : i < n
      · obtain ⟨⟨nm, fr, ⟨⟨p, q⟩, p', q'⟩, ⟨dp, dq⟩, md, gd⟩, ha⟩ := get_some (l := seg l s n) (i := i) (by omega)
        have hno := ho _ _ (seg_get ha).1
        dsimp only at hno
        have hsg := seg_take (l := l) (s := s) (m := n) (i := i) (by omega)
        have hse := seg_atD (d := stD) ha
        have hst : ∀ (j : Nat) (a : StT), (seg l s i)[j]? = some a → s2B a = true := fun j a hj => by
          rw [hsg, List.getElem?_take] at hj
          split at hj
          · have := hp j a (by omega) hj
            unfold stB at this; simp only [Bool.and_eq_true] at this; exact this.1.2
          · simp at hj
        have hs3 := s3_take (L := seg l s n) (i := i) (x := (nm, fr, ((p, q), p', q'), (dp, dq), md, gd)) (by omega)
        have hli := (List.getElem?_eq_some_iff.1 (seg_get ha).1).1
        (repeat' ((try (conv => whnf)); first | (with_reducible first | refine And.intro ?_ ?_ | refine WX.of ?_) | exact zc | ((with_reducible refine VC.mk ?_); exact zw) | with_reducible refine atL_i ha ?_ | ((with_reducible refine VC.mk ?_); exact ⟨by omega, by omega, hli, hst⟩) | (with_reducible first | refine splitT ?_ | refine splitF ?_) | ((with_reducible refine splitM.mk (fun hsm => ?_) (fun hsm => ?_)) <;> (try exact zx)) | ((with_reducible refine splitB.mk (fun h => ?_) (fun h => ?_)) <;> (try simp only [zs, ne_eq] at h) <;> (try simp (disch := omega) only [w64] at h) <;> (try exact zx)) | (with_reducible intro hz; (try exact absurd hz (Nat.succ_ne_zero _)))))
        · exact ⟨congrArg SV.bool (by rw [ch_no ha (st_1 (by unfold s1B; dsimp only; rw [h, Bool.false_and]))])⟩
        · rw [Int.toNat_natCast, hse, hsg, hs3, Bool.and_eq_false_iff] at h
          exact ⟨congrArg SV.bool (by rw [ch_no ha (by rcases h with h | h; exact st_2 h; exact st_3 h)])⟩
        · rename_i hw
          rw [Int.toNat_natCast, hse, hsg, hs3] at h
          have h23 := h
          (repeat' ((try (conv => whnf)); first | (with_reducible first | refine And.intro ?_ ?_ | refine WX.of ?_) | exact zc | ((with_reducible refine VC.mk ?_); exact zw) | (with_reducible first | refine splitT ?_ | refine splitF ?_) | ((with_reducible refine splitM.mk (fun hsm => ?_) (fun hsm => ?_)) <;> (try exact zx)) | ((with_reducible refine splitB.mk (fun h => ?_) (fun h => ?_)) <;> (try simp only [zs, ne_eq] at h) <;> (try simp (disch := omega) only [w64] at h) <;> (try exact zx)) | (with_reducible intro hz; (try exact absurd hz (Nat.succ_ne_zero _)))))
          refine loopW tabOk (E := [(104, s_word), (105, s_l05Std)]) ⟨ok_l05Name, ok_l05Standard, trivial⟩ [] (σ := Nat) (fun j => [(0, .sl 0 s n x), (3, .int .i64 i), (4, .int .i64 j)]) (fun j => [.arr (.prod .str (.prod (.int .i64) (.prod (.prod (.prod (.int .i64) (.int .i64)) (.prod (.int .i64) (.int .i64))) (.prod (.prod (.int .i64) (.int .i64)) (.prod (.int .i64) (.int .i64)))))) l 10 wr]) (fun j => i - j) (fun j => j ≤ i ∧ ∀ (k : Nat) (a : StT), k < j → (seg l s n)[k]? = some a → decide (a.1 = nm) = false) 0 ⟨Nat.zero_le _, fun j a hj => by omega⟩ ?_ ?_
          · (repeat' ((try (conv => whnf)); first | (with_reducible first | refine And.intro ?_ ?_ | refine WX.of ?_) | exact zc | ((with_reducible refine VC.mk ?_); exact zw) | (with_reducible first | refine splitT ?_ | refine splitF ?_) | ((with_reducible refine splitM.mk (fun hsm => ?_) (fun hsm => ?_)) <;> (try exact zx)) | ((with_reducible refine splitB.mk (fun h => ?_) (fun h => ?_)) <;> (try simp only [zs, ne_eq] at h) <;> (try simp (disch := omega) only [w64] at h) <;> (try exact zx)) | (with_reducible intro hz; (try exact absurd hz (Nat.succ_ne_zero _)))))
          · intro j ⟨hj, hq⟩
            by_cases hjl : j < i
            · obtain ⟨⟨nm0, fr0, ⟨⟨p0, q0⟩, p0', q0'⟩, ⟨dp0, dq0⟩, md0, gd0⟩, hb⟩ := get_some (l := seg l s n) (i := j) (by omega)
              (repeat' ((try (conv => whnf)); first | (with_reducible first | refine And.intro ?_ ?_ | refine WX.of ?_) | exact zc | ((with_reducible refine VC.mk ?_); exact zw) | with_reducible refine atL_i hb ?_ | with_reducible refine atL_i ha ?_ | (with_reducible first | refine splitT ?_ | refine splitF ?_) | ((with_reducible refine splitM.mk (fun hsm => ?_) (fun hsm => ?_)) <;> (try exact zx)) | ((with_reducible refine splitB.mk (fun h => ?_) (fun h => ?_)) <;> (try simp only [zs, ne_eq] at h) <;> (try simp (disch := omega) only [w64] at h) <;> (try exact zx)) | (with_reducible intro hz; (try exact absurd hz (Nat.succ_ne_zero _)))))
              · exact ⟨congrArg SV.bool (by rw [ch_no ha (st_1 (by unfold s1B; dsimp only; rw [any_take hb hjl (p := fun o : StT => decide (o.1 = nm)) (decide_eq_true h), Bool.not_true, Bool.and_false]))])⟩
              · refine ⟨j + 1, by omega, ⟨hjl, upto_step hb (decide_eq_false h) hq⟩, ?_⟩
                (repeat' ((try (conv => whnf)); first | (with_reducible first | refine And.intro ?_ ?_ | refine WX.of ?_) | exact zc | ((with_reducible refine VC.mk ?_); exact zw) | (with_reducible first | refine splitT ?_ | refine splitF ?_) | ((with_reducible refine splitM.mk (fun hsm => ?_) (fun hsm => ?_)) <;> (try exact zx)) | ((with_reducible refine splitB.mk (fun h => ?_) (fun h => ?_)) <;> (try simp only [zs, ne_eq] at h) <;> (try simp (disch := omega) only [w64] at h) <;> (try exact zx)) | (with_reducible intro hz; (try exact absurd hz (Nat.succ_ne_zero _)))))
            · have han : ((seg l s n).take i).any (fun o : StT => decide (o.1 = nm)) = false := any_no fun k a hk => by
                rw [List.getElem?_take] at hk
                split at hk
                · exact hq k a (by omega) hk
                · simp at hk
              have hth : stB (seg l s n) i (nm, fr, ((p, q), p', q'), (dp, dq), md, gd) = true := by
                unfold stB s1B; dsimp only; rw [hw, han, Bool.not_false, Bool.and_self, Bool.true_and]; exact h23
              (repeat' ((try (conv => whnf)); first | (with_reducible first | refine And.intro ?_ ?_ | refine WX.of ?_) | exact zc | ((with_reducible refine VC.mk ?_); exact zw) | (with_reducible first | refine splitT ?_ | refine splitF ?_) | ((with_reducible refine splitM.mk (fun hsm => ?_) (fun hsm => ?_)) <;> (try exact zx)) | ((with_reducible refine splitB.mk (fun h => ?_) (fun h => ?_)) <;> (try simp only [zs, ne_eq] at h) <;> (try simp (disch := omega) only [w64] at h) <;> (try exact zx)) | (with_reducible intro hz; (try exact absurd hz (Nat.succ_ne_zero _)))))
              refine ⟨i + 1, by omega, ⟨hlt, upto_step2 ha hth hp⟩, ?_⟩
              (repeat' ((try (conv => whnf)); first | (with_reducible first | refine And.intro ?_ ?_ | refine WX.of ?_) | exact zc | ((with_reducible refine VC.mk ?_); exact zw) | (with_reducible first | refine splitT ?_ | refine splitF ?_) | ((with_reducible refine splitM.mk (fun hsm => ?_) (fun hsm => ?_)) <;> (try exact zx)) | ((with_reducible refine splitB.mk (fun h => ?_) (fun h => ?_)) <;> (try simp only [zs, ne_eq] at h) <;> (try simp (disch := omega) only [w64] at h) <;> (try exact zx)) | (with_reducible intro hz; (try exact absurd hz (Nat.succ_ne_zero _)))))
      · obtain rfl : i = n := by omega
        have hbn := ch_yes (L := seg l s i) fun k a ha => hp k a (by have := (List.getElem?_eq_some_iff.1 ha).1; omega) ha
        (repeat' ((try (conv => whnf)); first | (with_reducible first | refine And.intro ?_ ?_ | refine WX.of ?_) | exact zc | ((with_reducible refine VC.mk ?_); exact zw) | (with_reducible first | refine splitT ?_ | refine splitF ?_) | ((with_reducible refine splitM.mk (fun hsm => ?_) (fun hsm => ?_)) <;> (try exact zx)) | ((with_reducible refine splitB.mk (fun h => ?_) (fun h => ?_)) <;> (try simp only [zs, ne_eq] at h) <;> (try simp (disch := omega) only [w64] at h) <;> (try exact zx)) | (with_reducible intro hz; (try exact absurd hz (Nat.succ_ne_zero _)))))
        exact ⟨congrArg SV.bool (by rw [hbn, hL, show decide (i ≤ 30) = true from decide_eq_true (by omega)])⟩
set_option maxHeartbeats 1600000 in
theorem ok_ValidChainI : SpecOk Tryd.prog 56 s_l05Ok := by
  intro args S h; unfold s_l05Ok at h ⊢; (split at h <;> first | exact False.elim h | skip)
  dsimp only at h ⊢
  rename_i s n x l wr
  obtain ⟨⟨h1, h2⟩, ho⟩ := h
  have hL := seg_len h1
  refine funW tabOk (E := [(106, s_word), (107, (s_anyCh 108)), (47, s_within), (49, s_vSpan), (102, s_fOk), (109, s_good)]) ⟨ok_isWord, ok_anyCh, ok_within, ok_ValidSpan, ok_ValidFrac, ok_good, trivial⟩ [] (k := 1) (fn := Tryd.f56) rfl rfl rfl rfl rfl rfl ?_
  (repeat' ((try (conv => whnf)); first | (with_reducible first | refine And.intro ?_ ?_ | refine WX.of ?_) | exact zc | ((with_reducible refine VC.mk ?_); exact zw) | (with_reducible first | refine splitT ?_ | refine splitF ?_) | ((with_reducible refine splitM.mk (fun hsm => ?_) (fun hsm => ?_)) <;> (try exact zx)) | ((with_reducible refine splitB.mk (fun h => ?_) (fun h => ?_)) <;> (try simp only [zs, ne_eq] at h) <;> (try simp (disch := omega) only [w64] at h) <;> (try exact zx)) | (with_reducible intro hz; (try exact absurd hz (Nat.succ_ne_zero _)))))
  refine loopW tabOk (E := [(106, s_word), (107, (s_anyCh 108)), (47, s_within), (49, s_vSpan), (102, s_fOk), (109, s_good)]) ⟨ok_isWord, ok_anyCh, ok_within, ok_ValidSpan, ok_ValidFrac, ok_good, trivial⟩ [] (σ := Nat) (fun i => [(0, .sl 0 s n x), (5, .sl 0 s n x), (6, .int .i64 n), (7, .int .i64 i)]) (fun i => [.arr (.prod .str (.prod (.int .i64) (.prod (.prod (.prod (.int .i64) (.int .i64)) (.prod (.int .i64) (.int .i64))) (.prod (.prod (.int .i64) (.int .i64)) (.prod (.int .i64) (.int .i64)))))) l 10 wr]) (fun i => n - i) (fun i => i ≤ n ∧ ∀ (j : Nat) (a : StT), j < i → (seg l s n)[j]? = some a → stB (seg l s n) j a = true) 0 ⟨Nat.zero_le _, fun j a hj => by omega⟩ ?_ ?_
  · (repeat' ((try (conv => whnf)); first | (with_reducible first | refine And.intro ?_ ?_ | refine WX.of ?_) | exact zc | ((with_reducible refine VC.mk ?_); exact zw) | (with_reducible first | refine splitT ?_ | refine splitF ?_) | ((with_reducible refine splitM.mk (fun hsm => ?_) (fun hsm => ?_)) <;> (try exact zx)) | ((with_reducible refine splitB.mk (fun h => ?_) (fun h => ?_)) <;> (try simp only [zs, ne_eq] at h) <;> (try simp (disch := omega) only [w64] at h) <;> (try exact zx)) | (with_reducible intro hz; (try exact absurd hz (Nat.succ_ne_zero _)))))
  · intro i ⟨hi, hp⟩
    by_cases hlt : i < n
    · obtain ⟨⟨nm, fr, ⟨⟨p, q⟩, p', q'⟩, ⟨dp, dq⟩, md, gd⟩, ha⟩ := get_some (l := seg l s n) (i := i) (by omega)
      have hno := ho _ _ (seg_get ha).1
      dsimp only at hno
      have hsg := seg_take (l := l) (s := s) (m := n) (i := i) (by omega)
      rcases in_em fr i with hin | hin
      · obtain ⟨⟨nm0, fr0, ⟨⟨p0, q0⟩, p0', q0'⟩, ⟨dp0, dq0⟩, md0, gd0⟩, hy⟩ := get_some (l := seg l s n) (i := fr.toNat) (by omega)
        have hyp := hp _ _ (by omega) hy
        have hyb := s2_of (show s2B _ = true from by unfold stB at hyp; simp only [Bool.and_eq_true] at hyp; exact hyp.1.2)
        have hay : stAt (seg l s n) fr = (nm0, fr0, ((p0, q0), p0', q0'), (dp0, dq0), md0, gd0) := stAt_z hy
        (repeat' ((try (conv => whnf)); first | (with_reducible first | refine And.intro ?_ ?_ | refine WX.of ?_) | exact zc | ((with_reducible refine VC.mk ?_); exact zw) | with_reducible refine atL_i ha ?_ | with_reducible refine atL_p (seg_get hy).1 ?_ | ((with_reducible refine VC.mk ?_); exact hno) | ((with_reducible refine VC.mk ?_); exact hyb) | (with_reducible first | refine splitT ?_ | refine splitF ?_) | ((with_reducible refine splitM.mk (fun hsm => ?_) (fun hsm => ?_)) <;> (try exact zx)) | ((with_reducible refine splitB.mk (fun h => ?_) (fun h => ?_)) <;> (try simp only [zs, ne_eq] at h) <;> (try simp (disch := omega) only [w64] at h) <;> (try exact zx)) | (with_reducible intro hz; (try exact absurd hz (Nat.succ_ne_zero _)))))
        all_goals first
          | exact ⟨⟨rfl, ⟨by omega, by omega⟩, trivial⟩⟩
          | (refine ⟨congrArg SV.bool ?_⟩; rw [ch_no ha]; unfold stB s1B s2B s3B spB dyB; dsimp only; first | (rw [Int.toNat_natCast, hsg] at h; simp [h]; done) | (simp [h]; done) | (rw [hay]; simp [h]; done) | (rw [hay]; simp [h]; intros; omega) | (rw [decide_eq_false h]; simp; done) | (simp [Int.not_le.2 h]; done) | (rw [decide_eq_false (Int.not_le.2 h)]; simp; done))
          | skip
        rename_i _ hw han hfr hsp hdf hdp hmd hgd h0
        rw [Int.toNat_natCast, hsg] at han
        have hth : stB (seg l s n) i (nm, fr, ((p, q), p', q'), (dp, dq), md, gd) = true := by
          unfold stB s1B s2B s3B spB dyB; dsimp only; rw [hay, hw, han, hsp, hdf, h, decide_eq_true hfr, decide_eq_true hdp, decide_eq_true hmd, decide_eq_true hgd]; simp
        refine ⟨i + 1, by omega, ⟨hlt, upto_step2 ha hth hp⟩, ?_⟩
        (repeat' ((try (conv => whnf)); first | (with_reducible first | refine And.intro ?_ ?_ | refine WX.of ?_) | exact zc | ((with_reducible refine VC.mk ?_); exact zw) | (with_reducible first | refine splitT ?_ | refine splitF ?_) | ((with_reducible refine splitM.mk (fun hsm => ?_) (fun hsm => ?_)) <;> (try exact zx)) | ((with_reducible refine splitB.mk (fun h => ?_) (fun h => ?_)) <;> (try simp only [zs, ne_eq] at h) <;> (try simp (disch := omega) only [w64] at h) <;> (try exact zx)) | (with_reducible intro hz; (try exact absurd hz (Nat.succ_ne_zero _)))))
      · (repeat' ((try (conv => whnf)); first | (with_reducible first | refine And.intro ?_ ?_ | refine WX.of ?_) | exact zc | ((with_reducible refine VC.mk ?_); exact zw) | with_reducible refine atL_i ha ?_ | ((with_reducible refine VC.mk ?_); exact hno) | (with_reducible first | refine splitT ?_ | refine splitF ?_) | ((with_reducible refine splitM.mk (fun hsm => ?_) (fun hsm => ?_)) <;> (try exact zx)) | ((with_reducible refine splitB.mk (fun h => ?_) (fun h => ?_)) <;> (try simp only [zs, ne_eq] at h) <;> (try simp (disch := omega) only [w64] at h) <;> (try exact zx)) | (with_reducible intro hz; (try exact absurd hz (Nat.succ_ne_zero _)))))
        all_goals first
          | exact ⟨⟨rfl, ⟨by omega, by omega⟩, trivial⟩⟩
          | (refine ⟨congrArg SV.bool ?_⟩; rw [ch_no ha]; unfold stB s1B s2B s3B spB dyB; dsimp only; first | (rw [Int.toNat_natCast, hsg] at h; simp [h]; done) | (simp [h]; done) | (rw [decide_eq_false h]; simp; done) | (simp [Int.not_le.2 h]; done) | (rw [decide_eq_false (Int.not_le.2 h)]; simp; done))
          | skip
        rename_i _ hw han hfr hsp hdf hdp hmd hgd
        rw [Int.toNat_natCast, hsg] at han
        have hth : stB (seg l s n) i (nm, fr, ((p, q), p', q'), (dp, dq), md, gd) = true := by
          unfold stB s1B s2B s3B spB dyB; dsimp only; rw [hw, han, hsp, hdf, decide_eq_true hfr, decide_eq_true hdp, decide_eq_true hmd, decide_eq_true hgd, decide_eq_true h]; simp
        refine ⟨i + 1, by omega, ⟨hlt, upto_step2 ha hth hp⟩, ?_⟩
        (repeat' ((try (conv => whnf)); first | (with_reducible first | refine And.intro ?_ ?_ | refine WX.of ?_) | exact zc | ((with_reducible refine VC.mk ?_); exact zw) | (with_reducible first | refine splitT ?_ | refine splitF ?_) | ((with_reducible refine splitM.mk (fun hsm => ?_) (fun hsm => ?_)) <;> (try exact zx)) | ((with_reducible refine splitB.mk (fun h => ?_) (fun h => ?_)) <;> (try simp only [zs, ne_eq] at h) <;> (try simp (disch := omega) only [w64] at h) <;> (try exact zx)) | (with_reducible intro hz; (try exact absurd hz (Nat.succ_ne_zero _)))))
    · obtain rfl : i = n := by omega
      have hbn := ch_yes (L := seg l s i) fun k a ha => hp k a (by have := (List.getElem?_eq_some_iff.1 ha).1; omega) ha
      (repeat' ((try (conv => whnf)); first | (with_reducible first | refine And.intro ?_ ?_ | refine WX.of ?_) | exact zc | ((with_reducible refine VC.mk ?_); exact zw) | (with_reducible first | refine splitT ?_ | refine splitF ?_) | ((with_reducible refine splitM.mk (fun hsm => ?_) (fun hsm => ?_)) <;> (try exact zx)) | ((with_reducible refine splitB.mk (fun h => ?_) (fun h => ?_)) <;> (try simp only [zs, ne_eq] at h) <;> (try simp (disch := omega) only [w64] at h) <;> (try exact zx)) | (with_reducible intro hz; (try exact absurd hz (Nat.succ_ne_zero _)))))
      exact ⟨congrArg SV.bool (by rw [hbn, hL, decide_eq_decide]; omega)⟩
end Go.Proofs.YtinaincgimoanaaDoor.Eng
set_option linter.unusedVariables false
set_option linter.unusedSimpArgs false
namespace Go.Proofs.YtinaincgimoanaaDoor.Eng
open Go Go.RowKit
set_option maxRecDepth 100000
def s_toSpan : Spec := fun args S => match args, S with
  | [.agg [.int .i64 p, .int .i64 q, .int .i64 r, .int .i64 s]], [] => ⟨True, .agg [.int .i64 p, .int .i64 q, .int .i64 r, .int .i64 s], []⟩
  | _, _ => noSpec
theorem ok_toSpan : SpecOk Tryd.prog 46 s_toSpan := by
  intro args S h; unfold s_toSpan at h ⊢; (split at h <;> first | exact False.elim h | skip)
  dsimp only at h ⊢
  refine funW tabOk (E := [(45, s_toFrac)]) ⟨ok_toFrac, trivial⟩ [] (k := 0) (fn := Tryd.f46) rfl rfl rfl rfl rfl rfl ?_
  (repeat' ((try (conv => whnf)); first | (with_reducible first | refine And.intro ?_ ?_ | refine WX.of ?_) | exact zc | ((with_reducible refine VC.mk ?_); exact zw) | (with_reducible first | refine splitT ?_ | refine splitF ?_) | ((with_reducible refine splitM.mk (fun hsm => ?_) (fun hsm => ?_)) <;> (try exact zx)) | ((with_reducible refine splitB.mk (fun h => ?_) (fun h => ?_)) <;> (try simp only [zs, ne_eq] at h) <;> (try simp (disch := omega) only [w64] at h) <;> (try exact zx)) | (with_reducible intro hz; (try exact absurd hz (Nat.succ_ne_zero _)))))
end Go.Proofs.YtinaincgimoanaaDoor.Eng
set_option linter.unusedVariables false
set_option linter.unusedSimpArgs false
namespace Go.Proofs.YtinaincgimoanaaDoor.Eng
open Go Go.RowKit
set_option maxRecDepth 100000
def s_szStandard : Spec := fun args S => match args, S with
  | [.agg [.str nm, .int .i64 fr, .int .i64 p, .int .i64 q, .int .i64 p', .int .i64 q', .int .i64 dp, .int .i64 dq, .int .i64 md, .int .i64 gd], .int .i64 k], [] => ⟨(0 ≤ k ∧ k ≤ 1048576) ∧ nm.length ≤ 9223372036854775807, .int .i64 (max (-1) (k - nm.length)), []⟩
  | _, _ => noSpec
theorem ok_szStandard : SpecOk Tryd.prog 52 s_szStandard := by
  intro args S h; unfold s_szStandard at h ⊢; (split at h <;> first | exact False.elim h | skip)
  dsimp only at h ⊢
  refine funW tabOk (E := []) trivial [] (k := 0) (fn := Tryd.f52) rfl rfl rfl rfl rfl rfl ?_
  (repeat' ((try (conv => whnf)); first | (with_reducible first | refine And.intro ?_ ?_ | refine WX.of ?_) | exact zc | ((with_reducible refine VC.mk ?_); exact zw) | (with_reducible first | refine splitT ?_ | refine splitF ?_) | ((with_reducible refine splitM.mk (fun hsm => ?_) (fun hsm => ?_)) <;> (try exact zx)) | ((with_reducible refine splitB.mk (fun h => ?_) (fun h => ?_)) <;> (try simp only [zs, ne_eq] at h) <;> (try simp (disch := omega) only [w64] at h) <;> (try exact zx)) | (with_reducible intro hz; (try exact absurd hz (Nat.succ_ne_zero _)))))
  all_goals (refine ⟨?_⟩; (try rw [w64 (by omega)]); congr 1; omega)
def s_szStandardS : Spec := fun args S => match args, S with
  | [.opt c 0 n 0, .int .i64 k], [.arrO (.prod .str (.prod (.int .i64) (.prod (.prod (.prod (.int .i64) (.int .i64)) (.prod (.int .i64) (.int .i64))) (.prod (.prod (.int .i64) (.int .i64)) (.prod (.int .i64) (.int .i64)))))) l 10] => ⟨(0 ≤ k ∧ k ≤ 1048576) ∧ (n ≤ l.length ∧ (c = true → l = [])) ∧ n ≤ 9223372036854775807 ∧ (∀ (j : Nat) a, l[j]? = some a → a.1.length ≤ 9223372036854775807), .int .i64 (max (-1) (k - n - tot (fun a : StT => a.1.length) (seg l 0 n))), [.arrO (.prod .str (.prod (.int .i64) (.prod (.prod (.prod (.int .i64) (.int .i64)) (.prod (.int .i64) (.int .i64))) (.prod (.prod (.int .i64) (.int .i64)) (.prod (.int .i64) (.int .i64)))))) l 10]⟩
  | _, _ => noSpec
theorem szStandardS_none {v : SV} (hv : v = .nils ∨ v = .sl 0 0 0 0) {k : Int} (hk : 0 ≤ k ∧ k ≤ 1048576) : RunsS Tryd.prog 17 [v, .int .i64 k] [.gone] (.int .i64 k) [.gone] := by
  rcases hv with rfl | rfl
  all_goals
    refine funW tabOk (E := [(52, s_szStandard)]) ⟨ok_szStandard, trivial⟩ [] (k := 1) (fn := Tryd.f17) rfl rfl rfl rfl rfl rfl ?_
    (repeat' ((try (conv => whnf)); first | (with_reducible first | refine And.intro ?_ ?_ | refine WX.of ?_) | exact zc | ((with_reducible refine VC.mk ?_); exact zw) | (with_reducible first | refine splitT ?_ | refine splitF ?_) | ((with_reducible refine splitM.mk (fun hsm => ?_) (fun hsm => ?_)) <;> (try exact zx)) | ((with_reducible refine splitB.mk (fun h => ?_) (fun h => ?_)) <;> (try simp only [zs, ne_eq] at h) <;> (try simp (disch := omega) only [w64] at h) <;> (try exact zx)) | (with_reducible intro hz; (try exact absurd hz (Nat.succ_ne_zero _)))))
    refine loop1 tabOk (E := [(52, s_szStandard)]) ⟨ok_szStandard, trivial⟩ [] ?_
    (repeat' ((try (conv => whnf)); first | (with_reducible first | refine And.intro ?_ ?_ | refine WX.of ?_) | exact zc | ((with_reducible refine VC.mk ?_); exact zw) | (with_reducible first | refine splitT ?_ | refine splitF ?_) | ((with_reducible refine splitM.mk (fun hsm => ?_) (fun hsm => ?_)) <;> (try exact zx)) | ((with_reducible refine splitB.mk (fun h => ?_) (fun h => ?_)) <;> (try simp only [zs, ne_eq] at h) <;> (try simp (disch := omega) only [w64] at h) <;> (try exact zx)) | (with_reducible intro hz; (try exact absurd hz (Nat.succ_ne_zero _)))))
theorem szStandardS_sl {s n x : Nat} {l : List StT} {wr : Bool} {k : Int} (h1 : s + n ≤ l.length) (hk : 0 ≤ k ∧ k ≤ 1048576) (hn : n ≤ 9223372036854775807) (ho : ∀ (j : Nat) a, l[j]? = some a → a.1.length ≤ 9223372036854775807) : RunsS Tryd.prog 17 [.sl 0 s n x, .int .i64 k] [.arr (.prod .str (.prod (.int .i64) (.prod (.prod (.prod (.int .i64) (.int .i64)) (.prod (.int .i64) (.int .i64))) (.prod (.prod (.int .i64) (.int .i64)) (.prod (.int .i64) (.int .i64)))))) l 10 wr] (.int .i64 (max (-1) (k - n - tot (fun a : StT => a.1.length) (seg l s n)))) [.arr (.prod .str (.prod (.int .i64) (.prod (.prod (.prod (.int .i64) (.int .i64)) (.prod (.int .i64) (.int .i64))) (.prod (.prod (.int .i64) (.int .i64)) (.prod (.int .i64) (.int .i64)))))) l 10 wr] := by
  have hL := seg_len h1
  refine funW tabOk (E := [(52, s_szStandard)]) ⟨ok_szStandard, trivial⟩ [] (k := 1) (fn := Tryd.f17) rfl rfl rfl rfl rfl rfl ?_
  (repeat' ((try (conv => whnf)); first | (with_reducible first | refine And.intro ?_ ?_ | refine WX.of ?_) | exact zc | ((with_reducible refine VC.mk ?_); exact zw) | (with_reducible first | refine splitT ?_ | refine splitF ?_) | ((with_reducible refine splitM.mk (fun hsm => ?_) (fun hsm => ?_)) <;> (try exact zx)) | ((with_reducible refine splitB.mk (fun h => ?_) (fun h => ?_)) <;> (try simp only [zs, ne_eq] at h) <;> (try simp (disch := omega) only [w64] at h) <;> (try exact zx)) | (with_reducible intro hz; (try exact absurd hz (Nat.succ_ne_zero _)))))
  refine loopW tabOk (E := [(52, s_szStandard)]) ⟨ok_szStandard, trivial⟩ [] (σ := Nat) (fun i => [(0, .sl 0 s n x), (1, .int .i64 (k - n - tot (fun a : StT => a.1.length) ((seg l s n).take i))), (5, .int .i64 i)]) (fun i => [.arr (.prod .str (.prod (.int .i64) (.prod (.prod (.prod (.int .i64) (.int .i64)) (.prod (.int .i64) (.int .i64))) (.prod (.prod (.int .i64) (.int .i64)) (.prod (.int .i64) (.int .i64)))))) l 10 wr]) (fun i => n - i) (fun i => i ≤ n ∧ (tot (fun a : StT => a.1.length) ((seg l s n).take i) : Int) ≤ k - n) 0 ⟨Nat.zero_le _, by simp [tot]; omega⟩ ?_ ?_
  · (repeat' ((try (conv => whnf)); first | (with_reducible first | refine And.intro ?_ ?_ | refine WX.of ?_) | exact zc | ((with_reducible refine VC.mk ?_); exact zw) | (with_reducible first | refine splitT ?_ | refine splitF ?_) | ((with_reducible refine splitM.mk (fun hsm => ?_) (fun hsm => ?_)) <;> (try exact zx)) | ((with_reducible refine splitB.mk (fun h => ?_) (fun h => ?_)) <;> (try simp only [zs, ne_eq] at h) <;> (try simp (disch := omega) only [w64] at h) <;> (try exact zx)) | (with_reducible intro hz; (try exact absurd hz (Nat.succ_ne_zero _)))))
    all_goals (refine ⟨?_⟩; rw [w64 (by omega)]; simp [tot])
  · intro i ⟨hi, hp⟩
    by_cases hlt : i < n
    · obtain ⟨⟨nm, fr, ⟨⟨p, q⟩, p', q'⟩, ⟨dp, dq⟩, md, gd⟩, ha⟩ := get_some (l := seg l s n) (i := i) (by omega)
      have hno := ho _ _ (seg_get ha).1
      dsimp only at hno
      have hst := tot_step (f := fun a : StT => a.1.length) ha
      dsimp only at hst
      have hle := tot_le (f := fun a : StT => a.1.length) (L := seg l s n) (i + 1)
      (repeat' ((try (conv => whnf)); first | (with_reducible first | refine And.intro ?_ ?_ | refine WX.of ?_) | exact zc | ((with_reducible refine VC.mk ?_); exact zw) | refine atL_i ha ?_ | (with_reducible first | refine splitT ?_ | refine splitF ?_) | ((with_reducible refine splitM.mk (fun hsm => ?_) (fun hsm => ?_)) <;> (try exact zx)) | ((with_reducible refine splitB.mk (fun h => ?_) (fun h => ?_)) <;> (try simp only [zs, ne_eq] at h) <;> (try simp (disch := omega) only [w64] at h) <;> (try exact zx)) | (with_reducible intro hz; (try exact absurd hz (Nat.succ_ne_zero _)))))
      refine ⟨i + 1, by omega, ⟨hlt, by omega⟩, ?_⟩
      (repeat' ((try (conv => whnf)); first | (with_reducible first | refine And.intro ?_ ?_ | refine WX.of ?_) | exact zc | ((with_reducible refine VC.mk ?_); exact zw) | (with_reducible first | refine splitT ?_ | refine splitF ?_) | ((with_reducible refine splitM.mk (fun hsm => ?_) (fun hsm => ?_)) <;> (try exact zx)) | ((with_reducible refine splitB.mk (fun h => ?_) (fun h => ?_)) <;> (try simp only [zs, ne_eq] at h) <;> (try simp (disch := omega) only [w64] at h) <;> (try exact zx)) | (with_reducible intro hz; (try exact absurd hz (Nat.succ_ne_zero _)))))
    · obtain rfl : i = n := by omega
      rw [List.take_of_length_le (by omega)] at hp ⊢
      (repeat' ((try (conv => whnf)); first | (with_reducible first | refine And.intro ?_ ?_ | refine WX.of ?_) | exact zc | ((with_reducible refine VC.mk ?_); exact zw) | (with_reducible first | refine splitT ?_ | refine splitF ?_) | ((with_reducible refine splitM.mk (fun hsm => ?_) (fun hsm => ?_)) <;> (try exact zx)) | ((with_reducible refine splitB.mk (fun h => ?_) (fun h => ?_)) <;> (try simp only [zs, ne_eq] at h) <;> (try simp (disch := omega) only [w64] at h) <;> (try exact zx)) | (with_reducible intro hz; (try exact absurd hz (Nat.succ_ne_zero _)))))
theorem ok_szStandardS : SpecOk Tryd.prog 17 s_szStandardS := by
  intro args S h; unfold s_szStandardS at h ⊢; (split at h <;> first | exact False.elim h | skip)
  dsimp only at h ⊢
  rename_i c n k l
  obtain ⟨h1, ⟨h2, h3⟩, h4, h5⟩ := h
  refine RunsS.opt (pre := []) (post := [_]) rfl rfl h2 (fun hn _ hl => ?_) (fun hn _ hl => ?_) (szStandardS_sl (by simpa using h2) h1 h4 h5) h3
  · subst hn; subst hl
    simpa [seg, tot, show max (-1) k = k by omega] using szStandardS_none (.inl rfl) h1
  · subst hn; subst hl
    simpa [seg, tot, show max (-1) k = k by omega] using szStandardS_none (.inr rfl) h1
def s_toStandard : Spec := fun args S => match args, S with
  | [.agg [.str nm, .int .i64 fr, .int .i64 p, .int .i64 q, .int .i64 p', .int .i64 q', .int .i64 dp, .int .i64 dq, .int .i64 md, .int .i64 gd]], [] => ⟨True, .agg [.str nm, .int .i64 fr, .int .i64 p, .int .i64 q, .int .i64 p', .int .i64 q', .int .i64 dp, .int .i64 dq, .int .i64 md, .int .i64 gd], []⟩
  | _, _ => noSpec
theorem ok_toStandard : SpecOk Tryd.prog 55 s_toStandard := by
  intro args S h; unfold s_toStandard at h ⊢; (split at h <;> first | exact False.elim h | skip)
  dsimp only at h ⊢
  refine funW tabOk (E := [(45, s_toFrac), (46, s_toSpan)]) ⟨ok_toFrac, ok_toSpan, trivial⟩ [] (k := 0) (fn := Tryd.f55) rfl rfl rfl rfl rfl rfl ?_
  (repeat' ((try dsimp only); (try (conv => whnf)); first | (with_reducible first | refine And.intro ?_ ?_ | refine WX.of ?_) | exact zc | ((with_reducible refine VC.mk ?_); exact zw) | (with_reducible first | refine splitT ?_ | refine splitF ?_) | ((with_reducible refine splitM.mk (fun hsm => ?_) (fun hsm => ?_)) <;> (try exact zx)) | ((with_reducible refine splitB.mk (fun h => ?_) (fun h => ?_)) <;> (try simp only [zs, ne_eq] at h) <;> (try simp (disch := omega) only [w64] at h) <;> (try exact zx)) | (with_reducible intro hz; (try exact absurd hz (Nat.succ_ne_zero _)))))
def s_eqSpanC : Spec := fun args S => match args, S with
  | [.agg [.int .i64 p, .int .i64 q, .int .i64 p', .int .i64 q'], .agg [.int .i64 r, .int .i64 s, .int .i64 r', .int .i64 s']], [] => ⟨True, .bool ((decide (p = r) && decide (q = s)) && (decide (p' = r') && decide (q' = s'))), []⟩
  | _, _ => noSpec
theorem ok_eqSpanC : SpecOk Tryd.prog 85 s_eqSpanC := by
  intro args S h; unfold s_eqSpanC at h ⊢; (split at h <;> first | exact False.elim h | skip)
  dsimp only at h ⊢
  refine funW tabOk (E := [(70, s_eqFrac)]) ⟨ok_eqFrac, trivial⟩ [] (k := 0) (fn := Tryd.f85) rfl rfl rfl rfl rfl rfl ?_
  (repeat' ((try (conv => whnf)); first | (with_reducible first | refine And.intro ?_ ?_ | refine WX.of ?_) | exact zc | ((with_reducible refine VC.mk ?_); exact zw) | (with_reducible first | refine splitT ?_ | refine splitF ?_) | ((with_reducible refine splitM.mk (fun hsm => ?_) (fun hsm => ?_)) <;> (try exact zx)) | ((with_reducible refine splitB.mk (fun h => ?_) (fun h => ?_)) <;> (try simp only [zs, ne_eq] at h) <;> (try simp (disch := omega) only [w64] at h) <;> (try exact zx)) | (with_reducible intro hz; (try exact absurd hz (Nat.succ_ne_zero _)))))
  all_goals (refine ⟨?_⟩; simp_all)
def s_eqStandard : Spec := fun args S => match args, S with
  | [.agg [.str nm, .int .i64 fr, .int .i64 p, .int .i64 q, .int .i64 p', .int .i64 q', .int .i64 dp, .int .i64 dq, .int .i64 md, .int .i64 gd], .agg [.str nm0, .int .i64 fr0, .int .i64 p0, .int .i64 q0, .int .i64 p0', .int .i64 q0', .int .i64 dp0, .int .i64 dq0, .int .i64 md0, .int .i64 gd0]], [] => ⟨True, .bool (decide ((nm, fr, ((p, q), p', q'), (dp, dq), md, gd) = (nm0, fr0, ((p0, q0), p0', q0'), (dp0, dq0), md0, gd0))), []⟩
  | _, _ => noSpec
theorem ok_eqStandard : SpecOk Tryd.prog 58 s_eqStandard := by
  intro args S h; unfold s_eqStandard at h ⊢; (split at h <;> first | exact False.elim h | skip)
  dsimp only at h ⊢
  refine funW tabOk (E := [(70, s_eqFrac), (85, s_eqSpanC)]) ⟨ok_eqFrac, ok_eqSpanC, trivial⟩ [] (k := 0) (fn := Tryd.f58) rfl rfl rfl rfl rfl rfl ?_
  (repeat' ((try (conv => whnf)); first | (with_reducible first | refine And.intro ?_ ?_ | refine WX.of ?_) | exact zc | ((with_reducible refine VC.mk ?_); exact zw) | (with_reducible first | refine splitT ?_ | refine splitF ?_) | ((with_reducible refine splitM.mk (fun hsm => ?_) (fun hsm => ?_)) <;> (try exact zx)) | ((with_reducible refine splitB.mk (fun h => ?_) (fun h => ?_)) <;> (try simp only [zs, ne_eq] at h) <;> (try simp (disch := omega) only [w64] at h) <;> (try exact zx)) | (with_reducible intro hz; (try exact absurd hz (Nat.succ_ne_zero _)))))
  all_goals (refine ⟨?_⟩; simp_all)
def s_toStandardS : Spec := fun args S => match args, S with
  | [.opt c 0 n 0], [.arrO (.prod .str (.prod (.int .i64) (.prod (.prod (.prod (.int .i64) (.int .i64)) (.prod (.int .i64) (.int .i64))) (.prod (.prod (.int .i64) (.int .i64)) (.prod (.int .i64) (.int .i64)))))) l 10] => ⟨n ≤ l.length ∧ (c = true → l = []) ∧ n ≤ 1048576, .sl 1 0 n 0, [.arrO (.prod .str (.prod (.int .i64) (.prod (.prod (.prod (.int .i64) (.int .i64)) (.prod (.int .i64) (.int .i64))) (.prod (.prod (.int .i64) (.int .i64)) (.prod (.int .i64) (.int .i64)))))) l 10, .arr (.prod .str (.prod (.int .i64) (.prod (.prod (.prod (.int .i64) (.int .i64)) (.prod (.int .i64) (.int .i64))) (.prod (.prod (.int .i64) (.int .i64)) (.prod (.int .i64) (.int .i64)))))) (seg l 0 n) 10 true]⟩
  | [.sl 0 s n x], [.arr (.prod .str (.prod (.int .i64) (.prod (.prod (.prod (.int .i64) (.int .i64)) (.prod (.int .i64) (.int .i64))) (.prod (.prod (.int .i64) (.int .i64)) (.prod (.int .i64) (.int .i64)))))) l 10 wr] => ⟨s + n ≤ l.length ∧ n ≤ 1048576, .sl 1 0 n 0, [.arr (.prod .str (.prod (.int .i64) (.prod (.prod (.prod (.int .i64) (.int .i64)) (.prod (.int .i64) (.int .i64))) (.prod (.prod (.int .i64) (.int .i64)) (.prod (.int .i64) (.int .i64)))))) l 10 wr, .arr (.prod .str (.prod (.int .i64) (.prod (.prod (.prod (.int .i64) (.int .i64)) (.prod (.int .i64) (.int .i64))) (.prod (.prod (.int .i64) (.int .i64)) (.prod (.int .i64) (.int .i64)))))) (seg l s n) 10 true]⟩
  | _, _ => noSpec
theorem toStandardS_sl {s n x : Nat} {l : List (ET.T (.prod .str (.prod (.int .i64) (.prod (.prod (.prod (.int .i64) (.int .i64)) (.prod (.int .i64) (.int .i64))) (.prod (.prod (.int .i64) (.int .i64)) (.prod (.int .i64) (.int .i64)))))))} {wr : Bool} (h : s + n ≤ l.length ∧ n ≤ 1048576) : RunsS Tryd.prog 19 [.sl 0 s n x] [.arr (.prod .str (.prod (.int .i64) (.prod (.prod (.prod (.int .i64) (.int .i64)) (.prod (.int .i64) (.int .i64))) (.prod (.prod (.int .i64) (.int .i64)) (.prod (.int .i64) (.int .i64)))))) l 10 wr] (.sl 1 0 n 0) [.arr (.prod .str (.prod (.int .i64) (.prod (.prod (.prod (.int .i64) (.int .i64)) (.prod (.int .i64) (.int .i64))) (.prod (.prod (.int .i64) (.int .i64)) (.prod (.int .i64) (.int .i64)))))) l 10 wr, .arr (.prod .str (.prod (.int .i64) (.prod (.prod (.prod (.int .i64) (.int .i64)) (.prod (.int .i64) (.int .i64))) (.prod (.prod (.int .i64) (.int .i64)) (.prod (.int .i64) (.int .i64)))))) (seg l s n) 10 true] := by
  have hL := seg_len h.1
  refine funW tabOk (E := [(55, s_toStandard)]) ⟨ok_toStandard, trivial⟩ [] (k := 1) (fn := Tryd.f19) rfl rfl rfl rfl rfl rfl ?_
  (repeat' ((try (conv => whnf)); first | (with_reducible first | refine And.intro ?_ ?_ | refine WX.of ?_) | exact zc | ((with_reducible refine VC.mk ?_); exact zw) | ((with_reducible refine VC.mk ?_); (refine ⟨?_, rfl, ?_, ?_⟩); (omega); (refine Int.le_trans (Int.mul_le_mul_of_nonneg_right (b := 100000) ?_ ?_) ?_; (decide); (omega); (omega)); (omega)) | (with_reducible first | refine splitT ?_ | refine splitF ?_) | ((with_reducible refine splitM.mk (fun hsm => ?_) (fun hsm => ?_)) <;> (try exact zx)) | ((with_reducible refine splitB.mk (fun h => ?_) (fun h => ?_)) <;> (try simp only [zs, ne_eq] at h) <;> (try simp (disch := omega) only [w64] at h) <;> (try exact zx)) | (with_reducible intro hz; (try exact absurd hz (Nat.succ_ne_zero _)))))
  refine loopW tabOk (E := [(55, s_toStandard)]) ⟨ok_toStandard, trivial⟩ [] (σ := Nat) (fun i => [(0, .sl 0 s n x), (3, .sl 1 0 n 0), (4, .int .i64 i)]) (fun i => [.arr (.prod .str (.prod (.int .i64) (.prod (.prod (.prod (.int .i64) (.int .i64)) (.prod (.int .i64) (.int .i64))) (.prod (.prod (.int .i64) (.int .i64)) (.prod (.int .i64) (.int .i64)))))) l 10 wr, .arr (.prod .str (.prod (.int .i64) (.prod (.prod (.prod (.int .i64) (.int .i64)) (.prod (.int .i64) (.int .i64))) (.prod (.prod (.int .i64) (.int .i64)) (.prod (.int .i64) (.int .i64)))))) ((seg l s n).take i ++ List.replicate (n - i) ((([], 0, ((0, 0), 0, 0), (0, 0), 0, 0) : StT) : ET.T (.prod .str (.prod (.int .i64) (.prod (.prod (.prod (.int .i64) (.int .i64)) (.prod (.int .i64) (.int .i64))) (.prod (.prod (.int .i64) (.int .i64)) (.prod (.int .i64) (.int .i64)))))))) 10 true]) (fun i => n - i) (fun i => i ≤ n) 0 (Nat.zero_le _) ?_ ?_
  · (repeat' ((try (conv => whnf)); first | (with_reducible first | refine And.intro ?_ ?_ | refine WX.of ?_) | exact zc | ((with_reducible refine VC.mk ?_); exact zw) | (with_reducible first | refine splitT ?_ | refine splitF ?_) | ((with_reducible refine splitM.mk (fun hsm => ?_) (fun hsm => ?_)) <;> (try exact zx)) | ((with_reducible refine splitB.mk (fun h => ?_) (fun h => ?_)) <;> (try simp only [zs, ne_eq] at h) <;> (try simp (disch := omega) only [w64] at h) <;> (try exact zx)) | (with_reducible intro hz; (try exact absurd hz (Nat.succ_ne_zero _)))))
    all_goals exact ⟨by simp⟩
  · intro i hi
    by_cases hlt : i < n
    · obtain ⟨⟨nm, fr, ⟨⟨p, q⟩, p', q'⟩, ⟨dp, dq⟩, md, gd⟩, ha⟩ := get_some (l := seg l s n) (i := i) (by omega)
      (repeat' ((try (conv => whnf)); first | (with_reducible first | refine And.intro ?_ ?_ | refine WX.of ?_) | exact zc | ((with_reducible refine VC.mk ?_); exact zw) | refine atL_i ha ?_ | refine atL_0 (fill_at hL hlt) ?_ | (with_reducible first | refine splitT ?_ | refine splitF ?_) | ((with_reducible refine splitM.mk (fun hsm => ?_) (fun hsm => ?_)) <;> (try exact zx)) | ((with_reducible refine splitB.mk (fun h => ?_) (fun h => ?_)) <;> (try simp only [zs, ne_eq] at h) <;> (try simp (disch := omega) only [w64] at h) <;> (try exact zx)) | (with_reducible intro hz; (try exact absurd hz (Nat.succ_ne_zero _)))))
      refine ⟨i + 1, by omega, hlt, ?_⟩
      (repeat' ((try (conv => whnf)); first | (with_reducible first | refine And.intro ?_ ?_ | refine WX.of ?_) | exact zc | ((with_reducible refine VC.mk ?_); exact zw) | (with_reducible first | refine splitT ?_ | refine splitF ?_) | ((with_reducible refine splitM.mk (fun hsm => ?_) (fun hsm => ?_)) <;> (try exact zx)) | ((with_reducible refine splitB.mk (fun h => ?_) (fun h => ?_)) <;> (try simp only [zs, ne_eq] at h) <;> (try simp (disch := omega) only [w64] at h) <;> (try exact zx)) | (with_reducible intro hz; (try exact absurd hz (Nat.succ_ne_zero _)))))
      exact ⟨by simp [fill_step hL ha]⟩
    · (repeat' ((try (conv => whnf)); first | (with_reducible first | refine And.intro ?_ ?_ | refine WX.of ?_) | exact zc | ((with_reducible refine VC.mk ?_); exact zw) | (with_reducible first | refine splitT ?_ | refine splitF ?_) | ((with_reducible refine splitM.mk (fun hsm => ?_) (fun hsm => ?_)) <;> (try exact zx)) | ((with_reducible refine splitB.mk (fun h => ?_) (fun h => ?_)) <;> (try simp only [zs, ne_eq] at h) <;> (try simp (disch := omega) only [w64] at h) <;> (try exact zx)) | (with_reducible intro hz; (try exact absurd hz (Nat.succ_ne_zero _)))))
      obtain rfl : i = n := by omega
      exact ⟨by rw [fill_end hL]⟩
theorem toStandardS_none {v : SV} (hv : v = .nils ∨ v = .sl 0 0 0 0) : RunsS Tryd.prog 19 [v] [.gone] (.sl 1 0 0 0) [.gone, .arr (.prod .str (.prod (.int .i64) (.prod (.prod (.prod (.int .i64) (.int .i64)) (.prod (.int .i64) (.int .i64))) (.prod (.prod (.int .i64) (.int .i64)) (.prod (.int .i64) (.int .i64)))))) [] 10 true] := by
  rcases hv with rfl | rfl
  all_goals
    refine funW tabOk (E := [(55, s_toStandard)]) ⟨ok_toStandard, trivial⟩ [] (k := 1) (fn := Tryd.f19) rfl rfl rfl rfl rfl rfl ?_
    (repeat' ((try (conv => whnf)); first | (with_reducible first | refine And.intro ?_ ?_ | refine WX.of ?_) | exact zc | ((with_reducible refine VC.mk ?_); exact zw) | (with_reducible first | refine splitT ?_ | refine splitF ?_) | ((with_reducible refine splitM.mk (fun hsm => ?_) (fun hsm => ?_)) <;> (try exact zx)) | ((with_reducible refine splitB.mk (fun h => ?_) (fun h => ?_)) <;> (try simp only [zs, ne_eq] at h) <;> (try simp (disch := omega) only [w64] at h) <;> (try exact zx)) | (with_reducible intro hz; (try exact absurd hz (Nat.succ_ne_zero _)))))
    refine loop1 tabOk (E := [(55, s_toStandard)]) ⟨ok_toStandard, trivial⟩ [] ?_
    (repeat' ((try (conv => whnf)); first | (with_reducible first | refine And.intro ?_ ?_ | refine WX.of ?_) | exact zc | ((with_reducible refine VC.mk ?_); exact zw) | (with_reducible first | refine splitT ?_ | refine splitF ?_) | ((with_reducible refine splitM.mk (fun hsm => ?_) (fun hsm => ?_)) <;> (try exact zx)) | ((with_reducible refine splitB.mk (fun h => ?_) (fun h => ?_)) <;> (try simp only [zs, ne_eq] at h) <;> (try simp (disch := omega) only [w64] at h) <;> (try exact zx)) | (with_reducible intro hz; (try exact absurd hz (Nat.succ_ne_zero _)))))
theorem ok_toStandardS : SpecOk Tryd.prog 19 s_toStandardS := by
  intro args S h; unfold s_toStandardS at h ⊢; (split at h <;> first | exact False.elim h | skip)
  dsimp only at h ⊢
  · exact RunsS.opt (pre := []) (post := []) rfl rfl h.1 (fun hn _ hl => by subst hn; subst hl; exact toStandardS_none (.inl rfl)) (fun hn _ hl => by subst hn; subst hl; exact toStandardS_none (.inr rfl)) (toStandardS_sl ⟨by simpa using h.1, h.2.2⟩) h.2.1
  · exact toStandardS_sl h
instance instF2 : DecidableEq ((Int × Int) × Int × Int) := inferInstance
instance instStT : DecidableEq (ET.T (.prod .str (.prod (.int .i64) (.prod (.prod (.prod (.int .i64) (.int .i64)) (.prod (.int .i64) (.int .i64))) (.prod (.prod (.int .i64) (.int .i64)) (.prod (.int .i64) (.int .i64))))))) := inferInstanceAs (DecidableEq (List UInt8 × Int × ((Int × Int) × Int × Int) × (Int × Int) × Int × Int))
def s_eqStandardS : Spec := fun args S => match args, S with
  | [.sl 0 s n x, .sl 1 s' n' x'], [.arr (.prod .str (.prod (.int .i64) (.prod (.prod (.prod (.int .i64) (.int .i64)) (.prod (.int .i64) (.int .i64))) (.prod (.prod (.int .i64) (.int .i64)) (.prod (.int .i64) (.int .i64)))))) l 10 wr, .arr (.prod .str (.prod (.int .i64) (.prod (.prod (.prod (.int .i64) (.int .i64)) (.prod (.int .i64) (.int .i64))) (.prod (.prod (.int .i64) (.int .i64)) (.prod (.int .i64) (.int .i64)))))) l' 10 wr'] => ⟨s + n ≤ l.length ∧ s' + n' ≤ l'.length ∧ n ≤ 4611686018427387904, .bool (decide (seg l s n = seg l' s' n')), [.arr (.prod .str (.prod (.int .i64) (.prod (.prod (.prod (.int .i64) (.int .i64)) (.prod (.int .i64) (.int .i64))) (.prod (.prod (.int .i64) (.int .i64)) (.prod (.int .i64) (.int .i64)))))) l 10 wr, .arr (.prod .str (.prod (.int .i64) (.prod (.prod (.prod (.int .i64) (.int .i64)) (.prod (.int .i64) (.int .i64))) (.prod (.prod (.int .i64) (.int .i64)) (.prod (.int .i64) (.int .i64)))))) l' 10 wr']⟩
  | [.nils, .sl 0 s' n' x'], [.arr (.prod .str (.prod (.int .i64) (.prod (.prod (.prod (.int .i64) (.int .i64)) (.prod (.int .i64) (.int .i64))) (.prod (.prod (.int .i64) (.int .i64)) (.prod (.int .i64) (.int .i64)))))) l' 10 wr'] => ⟨s' + n' ≤ l'.length ∧ n' = 0, .bool true, [.arr (.prod .str (.prod (.int .i64) (.prod (.prod (.prod (.int .i64) (.int .i64)) (.prod (.int .i64) (.int .i64))) (.prod (.prod (.int .i64) (.int .i64)) (.prod (.int .i64) (.int .i64)))))) l' 10 wr']⟩
  | _, _ => noSpec
theorem eqStandardS_nil {s x : Nat} {l : List (ET.T (.prod .str (.prod (.int .i64) (.prod (.prod (.prod (.int .i64) (.int .i64)) (.prod (.int .i64) (.int .i64))) (.prod (.prod (.int .i64) (.int .i64)) (.prod (.int .i64) (.int .i64)))))))} {wr : Bool} : RunsS Tryd.prog 21 [.nils, .sl 0 s 0 x] [.arr (.prod .str (.prod (.int .i64) (.prod (.prod (.prod (.int .i64) (.int .i64)) (.prod (.int .i64) (.int .i64))) (.prod (.prod (.int .i64) (.int .i64)) (.prod (.int .i64) (.int .i64)))))) l 10 wr] (.bool true) [.arr (.prod .str (.prod (.int .i64) (.prod (.prod (.prod (.int .i64) (.int .i64)) (.prod (.int .i64) (.int .i64))) (.prod (.prod (.int .i64) (.int .i64)) (.prod (.int .i64) (.int .i64)))))) l 10 wr] := by
  refine funW tabOk (E := [(58, s_eqStandard)]) ⟨ok_eqStandard, trivial⟩ [] (k := 1) (fn := Tryd.f21) rfl rfl rfl rfl rfl rfl ?_
  (repeat' ((try (conv => whnf)); first | (with_reducible first | refine And.intro ?_ ?_ | refine WX.of ?_) | exact zc | ((with_reducible refine VC.mk ?_); exact zw) | (with_reducible first | refine splitT ?_ | refine splitF ?_) | ((with_reducible refine splitM.mk (fun hsm => ?_) (fun hsm => ?_)) <;> (try exact zx)) | ((with_reducible refine splitB.mk (fun h => ?_) (fun h => ?_)) <;> (try simp only [zs, ne_eq] at h) <;> (try simp (disch := omega) only [w64] at h) <;> (try exact zx)) | (with_reducible intro hz; (try exact absurd hz (Nat.succ_ne_zero _)))))
  refine loop1 tabOk (E := [(58, s_eqStandard)]) ⟨ok_eqStandard, trivial⟩ [] ?_
  (repeat' ((try (conv => whnf)); first | (with_reducible first | refine And.intro ?_ ?_ | refine WX.of ?_) | exact zc | ((with_reducible refine VC.mk ?_); exact zw) | (with_reducible first | refine splitT ?_ | refine splitF ?_) | ((with_reducible refine splitM.mk (fun hsm => ?_) (fun hsm => ?_)) <;> (try exact zx)) | ((with_reducible refine splitB.mk (fun h => ?_) (fun h => ?_)) <;> (try simp only [zs, ne_eq] at h) <;> (try simp (disch := omega) only [w64] at h) <;> (try exact zx)) | (with_reducible intro hz; (try exact absurd hz (Nat.succ_ne_zero _)))))
theorem ok_eqStandardS : SpecOk Tryd.prog 21 s_eqStandardS := by
  intro args S h; unfold s_eqStandardS at h ⊢; (split at h <;> first | exact False.elim h | skip)
  dsimp only at h ⊢
  rotate_left 1
  · obtain ⟨h1, rfl⟩ := h
    exact eqStandardS_nil
  rename_i s n x s' n' x' l wr l' wr'
  have hL := seg_len h.1
  have hM := seg_len h.2.1
  refine funW tabOk (E := [(58, s_eqStandard)]) ⟨ok_eqStandard, trivial⟩ [] (k := 2) (fn := Tryd.f21) rfl rfl rfl rfl rfl rfl ?_
  (repeat' ((try (conv => whnf)); first | (with_reducible first | refine And.intro ?_ ?_ | refine WX.of ?_) | exact zc | ((with_reducible refine VC.mk ?_); exact zw) | (with_reducible first | refine splitT ?_ | refine splitF ?_) | ((with_reducible refine splitM.mk (fun hsm => ?_) (fun hsm => ?_)) <;> (try exact zx)) | ((with_reducible refine splitB.mk (fun h => ?_) (fun h => ?_)) <;> (try simp only [zs, ne_eq] at h) <;> (try simp (disch := omega) only [w64] at h) <;> (try exact zx)) | (with_reducible intro hz; (try exact absurd hz (Nat.succ_ne_zero _)))))
  · refine ⟨?_⟩
    rw [decide_eq_false]; intro e
    rw [e] at hL; omega
  · obtain rfl : n = n' := by omega
    refine loopW tabOk (E := [(58, s_eqStandard)]) ⟨ok_eqStandard, trivial⟩ [] (σ := Nat) (fun i => [(0, .sl 0 s n x), (1, .sl 1 s' n x'), (5, .int .i64 i)]) (fun i => [.arr (.prod .str (.prod (.int .i64) (.prod (.prod (.prod (.int .i64) (.int .i64)) (.prod (.int .i64) (.int .i64))) (.prod (.prod (.int .i64) (.int .i64)) (.prod (.int .i64) (.int .i64)))))) l 10 wr, .arr (.prod .str (.prod (.int .i64) (.prod (.prod (.prod (.int .i64) (.int .i64)) (.prod (.int .i64) (.int .i64))) (.prod (.prod (.int .i64) (.int .i64)) (.prod (.int .i64) (.int .i64)))))) l' 10 wr']) (fun i => n - i) (fun i => i ≤ n ∧ (seg l s n).take i = (seg l' s' n).take i) 0 ⟨Nat.zero_le _, by simp⟩ ?_ ?_
    · (repeat' ((try (conv => whnf)); first | (with_reducible first | refine And.intro ?_ ?_ | refine WX.of ?_) | exact zc | ((with_reducible refine VC.mk ?_); exact zw) | (with_reducible first | refine splitT ?_ | refine splitF ?_) | ((with_reducible refine splitM.mk (fun hsm => ?_) (fun hsm => ?_)) <;> (try exact zx)) | ((with_reducible refine splitB.mk (fun h => ?_) (fun h => ?_)) <;> (try simp only [zs, ne_eq] at h) <;> (try simp (disch := omega) only [w64] at h) <;> (try exact zx)) | (with_reducible intro hz; (try exact absurd hz (Nat.succ_ne_zero _)))))
    · intro i ⟨hi, hp⟩
      by_cases hlt : i < n
      · obtain ⟨⟨nm, fr, ⟨⟨p, q⟩, p', q'⟩, ⟨dp, dq⟩, md, gd⟩, ha⟩ := get_some (l := seg l s n) (i := i) (by omega)
        obtain ⟨⟨nm0, fr0, ⟨⟨p0, q0⟩, p0', q0'⟩, ⟨dp0, dq0⟩, md0, gd0⟩, hb⟩ := get_some (l := seg l' s' n) (i := i) (by omega)
        (repeat' ((try (conv => whnf)); first | (with_reducible first | refine And.intro ?_ ?_ | refine WX.of ?_) | exact zc | ((with_reducible refine VC.mk ?_); exact zw) | refine atL_i ha ?_ | refine atL_i hb ?_ | (with_reducible first | refine splitT ?_ | refine splitF ?_) | ((with_reducible refine splitM.mk (fun hsm => ?_) (fun hsm => ?_)) <;> (try exact zx)) | ((with_reducible refine splitB.mk (fun h => ?_) (fun h => ?_)) <;> (try simp only [zs, ne_eq] at h) <;> (try simp (disch := omega) only [w64] at h) <;> (try exact zx)) | (with_reducible intro hz; (try exact absurd hz (Nat.succ_ne_zero _)))))
        · refine ⟨?_⟩; rw [decide_eq_false]; exact same_not ha hb (by simpa using h)
        · refine ⟨i + 1, by omega, ⟨hlt, same_step ha hb hp (by simpa using h)⟩, ?_⟩
          (repeat' ((try (conv => whnf)); first | (with_reducible first | refine And.intro ?_ ?_ | refine WX.of ?_) | exact zc | ((with_reducible refine VC.mk ?_); exact zw) | (with_reducible first | refine splitT ?_ | refine splitF ?_) | ((with_reducible refine splitM.mk (fun hsm => ?_) (fun hsm => ?_)) <;> (try exact zx)) | ((with_reducible refine splitB.mk (fun h => ?_) (fun h => ?_)) <;> (try simp only [zs, ne_eq] at h) <;> (try simp (disch := omega) only [w64] at h) <;> (try exact zx)) | (with_reducible intro hz; (try exact absurd hz (Nat.succ_ne_zero _)))))
      · (repeat' ((try (conv => whnf)); first | (with_reducible first | refine And.intro ?_ ?_ | refine WX.of ?_) | exact zc | ((with_reducible refine VC.mk ?_); exact zw) | (with_reducible first | refine splitT ?_ | refine splitF ?_) | ((with_reducible refine splitM.mk (fun hsm => ?_) (fun hsm => ?_)) <;> (try exact zx)) | ((with_reducible refine splitB.mk (fun h => ?_) (fun h => ?_)) <;> (try simp only [zs, ne_eq] at h) <;> (try simp (disch := omega) only [w64] at h) <;> (try exact zx)) | (with_reducible intro hz; (try exact absurd hz (Nat.succ_ne_zero _)))))
        obtain rfl : i = n := by omega
        refine ⟨?_⟩; rw [decide_eq_true]; exact same_end hL hM hp
end Go.Proofs.YtinaincgimoanaaDoor.Eng
set_option linter.unusedVariables false
set_option linter.unusedSimpArgs false
namespace Go.Proofs.YtinaincgimoanaaDoor.Eng
open Go Go.RowKit
set_option maxRecDepth 100000
/-- A standard's line; a chain's lines. -/
def frmT (L : List StT) (a : StT) : List UInt8 := if 0 ≤ a.2.1 then (stAt L a.2.1).1 else [45]
def stTx (L : List StT) (a : StT) : List UInt8 := ((((((((((a.1 ++ [32]) ++ frmT L a) ++ [32]) ++ spT a.2.2.1.1.1 a.2.2.1.1.2 a.2.2.1.2.1 a.2.2.1.2.2) ++ [32]) ++ frT a.2.2.2.1.1 a.2.2.2.1.2) ++ [32]) ++ dcl a.2.2.2.2.1) ++ [32]) ++ dcl a.2.2.2.2.2) ++ [10]
def chT (L M : List StT) : List UInt8 := M.flatMap (stTx L)
theorem wd12 {s : List UInt8} (h : wordB s = true) : s.length ≤ 12 := by
  unfold wordB at h
  simp only [Bool.and_eq_true, decide_eq_true_eq] at h
  omega
theorem frm_len {L : List StT} (h : chB L = true) {i : Nat} {a : StT} (ha : L[i]? = some a) : (frmT L a).length ≤ 12 := by
  have hi := (List.getElem?_eq_some_iff.1 ha).1
  have hf := (ch_ok h ha).fr
  unfold frmT
  split
  · obtain ⟨b, hb, e, ok⟩ := ch_z h (i := a.2.1) (by omega)
    rw [e]
    exact wd12 ok.nm
  · simp
theorem stTx_len {L : List StT} (h : chB L = true) {i : Nat} {a : StT} (ha : L[i]? = some a) : (stTx L a).length ≤ 200 := by
  have h1 := wd12 (ch_ok h ha).nm
  have h2 := frm_len h ha
  have h3 := spT_len a.2.2.1.1.1 a.2.2.1.1.2 a.2.2.1.2.1 a.2.2.1.2.2
  have h4 := frT_len a.2.2.2.1.1 a.2.2.2.1.2
  have h5 := decT_19 a.2.2.2.2.1
  have h6 := decT_19 a.2.2.2.2.2
  unfold stTx
  simp only [List.length_append, List.length_cons, List.length_nil]
  omega
theorem chT_s {L : List StT} {i : Nat} {a : StT} (h : L[i]? = some a) : chT L (L.take (i + 1)) = chT L (L.take i) ++ stTx L a := by
  obtain ⟨hi, rfl⟩ := List.getElem?_eq_some_iff.1 h
  unfold chT
  rw [List.take_succ_eq_append_getElem hi, List.flatMap_append]
  simp
theorem chT_len {L : List StT} (h : chB L = true) : ∀ i, i ≤ L.length → (chT L (L.take i)).length ≤ 200 * i
  | 0, _ => by simp [chT]
  | i + 1, hi => by
    obtain ⟨a, ha⟩ := get_some (l := L) (i := i) (by omega)
    rw [chT_s ha, List.length_append]
    have := stTx_len h ha
    have := chT_len h i (by omega)
    omega
def s_spTV : Spec := fun args S => match args, S with
  | [.ptr 0 i 2], [.arr (.prod .str (.prod (.int .i64) (.prod (.prod (.prod (.int .i64) (.int .i64)) (.prod (.int .i64) (.int .i64))) (.prod (.prod (.int .i64) (.int .i64)) (.prod (.int .i64) (.int .i64)))))) l 10 wr] => ⟨i < l.length ∧ smF ((l[i]?).getD stD).2.2.1.1.1 ((l[i]?).getD stD).2.2.1.1.2 ∧ smF ((l[i]?).getD stD).2.2.1.2.1 ((l[i]?).getD stD).2.2.1.2.2, .str (spT ((l[i]?).getD stD).2.2.1.1.1 ((l[i]?).getD stD).2.2.1.1.2 ((l[i]?).getD stD).2.2.1.2.1 ((l[i]?).getD stD).2.2.1.2.2), [.arr (.prod .str (.prod (.int .i64) (.prod (.prod (.prod (.int .i64) (.int .i64)) (.prod (.int .i64) (.int .i64))) (.prod (.prod (.int .i64) (.int .i64)) (.prod (.int .i64) (.int .i64)))))) l 10 wr]⟩
  | _, _ => noSpec
theorem ok_l01SpanTextV : SpecOk Tryd.prog 99 s_spTV := by
  intro args S h; unfold s_spTV at h ⊢; (split at h <;> first | exact False.elim h | skip)
  dsimp only at h ⊢
  rename_i i l wr
  obtain ⟨h, h2, h3⟩ := h
  obtain ⟨⟨nm, fr, ⟨⟨p, q⟩, p', q'⟩, ⟨dp, dq⟩, md, gd⟩, ha⟩ := get_some h
  rw [show (l[i]?).getD stD = (nm, fr, ((p, q), p', q'), (dp, dq), md, gd) from by rw [ha]; rfl] at h2 h3 ⊢
  have l1 := frT_len p q
  have l2 := frT_len p' q'
  refine funW tabOk (E := [(98, s_frT)]) ⟨ok_l01Text, trivial⟩ [(1, [(9, 0)])] (k := 1) (fn := Tryd.f99) rfl rfl rfl rfl rfl rfl ?_
  (repeat' ((try (conv => whnf)); first | (with_reducible first | refine And.intro ?_ ?_ | refine WX.of ?_) | exact zc | ((with_reducible refine VC.mk ?_); exact zw) | with_reducible refine atL_p ha ?_ | ((with_reducible refine VC.mk ?_); exact h2) | ((with_reducible refine VC.mk ?_); exact h3) | (with_reducible first | refine splitT ?_ | refine splitF ?_) | ((with_reducible refine splitM.mk (fun hsm => ?_) (fun hsm => ?_)) <;> (try exact zx)) | ((with_reducible refine splitB.mk (fun h => ?_) (fun h => ?_)) <;> (try simp only [zs, ne_eq] at h) <;> (try simp (disch := omega) only [w64] at h) <;> (try exact zx)) | (with_reducible intro hz; (try exact absurd hz (Nat.succ_ne_zero _)))))
  all_goals (refine ⟨?_⟩; simp; omega)
theorem fr_em (a : Int) : 0 ≤ a ∨ ¬ 0 ≤ a := Decidable.em _
theorem fr_b {L : List StT} {a : StT} {i n : Nat} (h : StOk L i a) (hi : i < n) (h0 : 0 ≤ a.2.1) : 0 ≤ a.2.1 ∧ a.2.1 < (n : Int) := ⟨h0, by have := h.fr; omega⟩
theorem md_b {L : List StT} {a : StT} {i : Nat} (h : StOk L i a) : 0 ≤ a.2.2.2.2.1 ∧ a.2.2.2.2.1 ≤ 9223372036854775807 := ⟨h.md.1, by have := h.md.2; omega⟩
theorem gd_b {L : List StT} {a : StT} {i : Nat} (h : StOk L i a) : 0 ≤ a.2.2.2.2.2 ∧ a.2.2.2.2.2 ≤ 9223372036854775807 := ⟨h.gd.1, by have := h.gd.2; omega⟩
theorem md_c {L : List StT} {a : StT} {i : Nat} (h : StOk L i a) : -9223372036854775807 ≤ a.2.2.2.2.1 ∧ a.2.2.2.2.1 ≤ 9223372036854775807 := ⟨by have := h.md.1; omega, by have := h.md.2; omega⟩
theorem gd_c {L : List StT} {a : StT} {i : Nat} (h : StOk L i a) : -9223372036854775807 ≤ a.2.2.2.2.2 ∧ a.2.2.2.2.2 ≤ 9223372036854775807 := ⟨by have := h.gd.1; omega, by have := h.gd.2; omega⟩
def s_l05Text : Spec := fun args S => match args, S with
  | [.sl 0 s n x], [.arr (.prod .str (.prod (.int .i64) (.prod (.prod (.prod (.int .i64) (.int .i64)) (.prod (.int .i64) (.int .i64))) (.prod (.prod (.int .i64) (.int .i64)) (.prod (.int .i64) (.int .i64)))))) l 10 wr] => ⟨(s + n ≤ l.length ∧ n ≤ 1000000) ∧ chB (seg l s n) = true, .str (chT (seg l s n) (seg l s n)), [.arr (.prod .str (.prod (.int .i64) (.prod (.prod (.prod (.int .i64) (.int .i64)) (.prod (.int .i64) (.int .i64))) (.prod (.prod (.int .i64) (.int .i64)) (.prod (.int .i64) (.int .i64)))))) l 10 wr]⟩
  | _, _ => noSpec
set_option maxHeartbeats 3200000 in
theorem ok_l05Text : SpecOk Tryd.prog 54 s_l05Text := by
  intro args S h; unfold s_l05Text at h ⊢; (split at h <;> first | exact False.elim h | skip)
  dsimp only at h ⊢
  rename_i s n x l wr
  obtain ⟨⟨h1, h2⟩, hC⟩ := h
  have hL := seg_len h1
  refine funW tabOk (E := [(99, s_spTV), (98, s_frT), (88, s_dcl)]) ⟨ok_l01SpanTextV, ok_l01Text, ok_dcl, trivial⟩ [(9, [(4, 1), (4, 2), (4, 3), (4, 4), (18, 0), (25, 0), (25, 1), (32, 0), (32, 1), (32, 2)])] (k := 1) (fn := Tryd.f54) rfl rfl rfl rfl rfl rfl ?_
  (repeat' ((try (conv => whnf)); first | (with_reducible first | refine And.intro ?_ ?_ | refine WX.of ?_) | exact zc | ((with_reducible refine VC.mk ?_); exact zw) | (with_reducible first | refine splitT ?_ | refine splitF ?_) | ((with_reducible refine splitM.mk (fun hsm => ?_) (fun hsm => ?_)) <;> (try exact zx)) | ((with_reducible refine splitB.mk (fun h => ?_) (fun h => ?_)) <;> (try simp only [zs, ne_eq] at h) <;> (try simp (disch := omega) only [w64] at h) <;> (try exact zx)) | (with_reducible intro hz; (try exact absurd hz (Nat.succ_ne_zero _)))))
  refine loopW tabOk (E := [(99, s_spTV), (98, s_frT), (88, s_dcl)]) ⟨ok_l01SpanTextV, ok_l01Text, ok_dcl, trivial⟩ [(9, [(4, 1), (4, 2), (4, 3), (4, 4), (18, 0), (25, 0), (25, 1), (32, 0), (32, 1), (32, 2)])] (σ := Nat) (fun i => [(0, .sl 0 s n x), (3, .str (chT (seg l s n) ((seg l s n).take i))), (4, .int .i64 i)]) (fun i => [.arr (.prod .str (.prod (.int .i64) (.prod (.prod (.prod (.int .i64) (.int .i64)) (.prod (.int .i64) (.int .i64))) (.prod (.prod (.int .i64) (.int .i64)) (.prod (.int .i64) (.int .i64)))))) l 10 wr]) (fun i => n - i) (fun i => i ≤ n) 0 (Nat.zero_le _) ?_ ?_
  · (repeat' ((try (conv => whnf)); first | (with_reducible first | refine And.intro ?_ ?_ | refine WX.of ?_) | exact zc | ((with_reducible refine VC.mk ?_); exact zw) | (with_reducible first | refine splitT ?_ | refine splitF ?_) | ((with_reducible refine splitM.mk (fun hsm => ?_) (fun hsm => ?_)) <;> (try exact zx)) | ((with_reducible refine splitB.mk (fun h => ?_) (fun h => ?_)) <;> (try simp only [zs, ne_eq] at h) <;> (try simp (disch := omega) only [w64] at h) <;> (try exact zx)) | (with_reducible intro hz; (try exact absurd hz (Nat.succ_ne_zero _)))))
  · intro i hi
    have hlen := chT_len hC i (by omega)
    by_cases hlt : i < n
    · obtain ⟨⟨nm, fr, ⟨⟨p, q⟩, p', q'⟩, ⟨dp, dq⟩, md, gd⟩, ha⟩ := get_some (l := seg l s n) (i := i) (by omega)
      have hag := (seg_get ha).1
      have hok := ch_ok hC ha
      have ha' : l[s + ((i : Nat) : Int).toNat]? = some (nm, fr, ((p, q), p', q'), (dp, dq), md, gd) := by rw [Int.toNat_natCast]; exact hag
      have hlt' := (List.getElem?_eq_some_iff.1 ha').1
      have hgD : (l[s + ((i : Nat) : Int).toNat]?).getD stD = (nm, fr, ((p, q), p', q'), (dp, dq), md, gd) := by rw [ha']; rfl
      obtain ⟨v1, v2, v3⟩ := spOk_iff.1 (show spOk p q p' q' = true from hok.vl)
      have s1 := smF_ok v1
      have s2 := smF_ok v2
      have s3 := smF_ok (show fOk dp dq = true from hok.dr)
      have l0 := wd12 (show wordB nm = true from hok.nm)
      have l1 := frm_len hC ha
      have l2 := spT_len p q p' q'
      have l3 := frT_len dp dq
      have l4 := decT_19 md
      have l5 := decT_19 gd
      have hmd := md_b hok
      have hgd := gd_b hok
      rcases fr_em fr with hfr | hfr
      · have hfb := fr_b hok hlt hfr
        obtain ⟨⟨nm0, fr0, ⟨⟨p0, q0⟩, p0', q0'⟩, ⟨dp0, dq0⟩, md0, gd0⟩, hb, eb, okb⟩ := ch_z hC (i := fr) (by rw [hL]; exact hfb)
        have hfm : frmT (seg l s n) (nm, fr, ((p, q), p', q'), (dp, dq), md, gd) = nm0 := by unfold frmT; rw [if_pos (by exact hfr)]; dsimp only; rw [eb]
        rw [hfm] at l1
        (repeat' ((try (conv => whnf)); first | (with_reducible first | refine And.intro ?_ ?_ | refine WX.of ?_) | exact zc | ((with_reducible refine VC.mk ?_); exact zw) | with_reducible refine atL_p ha' ?_ | with_reducible refine atL_p (seg_get hb).1 ?_ | ((with_reducible refine VC.mk ?_); refine ⟨hlt', ?_, ?_⟩; (rw [hgD]; exact s1); (rw [hgD]; exact s2)) | ((with_reducible refine VC.mk ?_); exact s3) | ((with_reducible refine VC.mk ?_); exact hmd) | ((with_reducible refine VC.mk ?_); exact hgd) | (with_reducible first | refine splitT ?_ | refine splitF ?_) | ((with_reducible refine splitM.mk (fun hsm => ?_) (fun hsm => ?_)) <;> (try exact zx)) | ((with_reducible refine splitB.mk (fun h => ?_) (fun h => ?_)) <;> (try simp only [zs, ne_eq] at h) <;> (try simp (disch := omega) only [w64] at h) <;> (try exact zx)) | (with_reducible intro hz; (try exact absurd hz (Nat.succ_ne_zero _)))))
        all_goals first
          | exact ⟨hfb⟩
          | (refine ⟨?_⟩; (try simp only [hgD]); simp; omega)
          | skip
        refine ⟨i + 1, by omega, hlt, ?_⟩
        rw [chT_s ha]
        (repeat' ((try (conv => whnf)); first | (with_reducible first | refine And.intro ?_ ?_ | refine WX.of ?_) | exact zc | ((with_reducible refine VC.mk ?_); exact zw) | (with_reducible first | refine splitT ?_ | refine splitF ?_) | ((with_reducible refine splitM.mk (fun hsm => ?_) (fun hsm => ?_)) <;> (try exact zx)) | ((with_reducible refine splitB.mk (fun h => ?_) (fun h => ?_)) <;> (try simp only [zs, ne_eq] at h) <;> (try simp (disch := omega) only [w64] at h) <;> (try exact zx)) | (with_reducible intro hz; (try exact absurd hz (Nat.succ_ne_zero _)))))
        all_goals (refine ⟨?_⟩; simp only [hgD]; unfold stTx; rw [hfm])
      · have hfm : frmT (seg l s n) (nm, fr, ((p, q), p', q'), (dp, dq), md, gd) = [45] := if_neg hfr
        have hfb := hfr
        (repeat' ((try (conv => whnf)); first | (with_reducible first | refine And.intro ?_ ?_ | refine WX.of ?_) | exact zc | ((with_reducible refine VC.mk ?_); exact zw) | with_reducible refine atL_p ha' ?_ | ((with_reducible refine VC.mk ?_); refine ⟨hlt', ?_, ?_⟩; (rw [hgD]; exact s1); (rw [hgD]; exact s2)) | ((with_reducible refine VC.mk ?_); exact s3) | ((with_reducible refine VC.mk ?_); exact hmd) | ((with_reducible refine VC.mk ?_); exact hgd) | (with_reducible first | refine splitT ?_ | refine splitF ?_) | ((with_reducible refine splitM.mk (fun hsm => ?_) (fun hsm => ?_)) <;> (try exact zx)) | ((with_reducible refine splitB.mk (fun h => ?_) (fun h => ?_)) <;> (try simp only [zs, ne_eq] at h) <;> (try simp (disch := omega) only [w64] at h) <;> (try exact zx)) | (with_reducible intro hz; (try exact absurd hz (Nat.succ_ne_zero _)))))
        all_goals first
          | exact ⟨hfb⟩
          | (refine ⟨?_⟩; (try simp only [hgD]); simp; omega)
          | skip
        refine ⟨i + 1, by omega, hlt, ?_⟩
        rw [chT_s ha]
        (repeat' ((try (conv => whnf)); first | (with_reducible first | refine And.intro ?_ ?_ | refine WX.of ?_) | exact zc | ((with_reducible refine VC.mk ?_); exact zw) | (with_reducible first | refine splitT ?_ | refine splitF ?_) | ((with_reducible refine splitM.mk (fun hsm => ?_) (fun hsm => ?_)) <;> (try exact zx)) | ((with_reducible refine splitB.mk (fun h => ?_) (fun h => ?_)) <;> (try simp only [zs, ne_eq] at h) <;> (try simp (disch := omega) only [w64] at h) <;> (try exact zx)) | (with_reducible intro hz; (try exact absurd hz (Nat.succ_ne_zero _)))))
        all_goals (refine ⟨?_⟩; simp only [hgD]; unfold stTx; rw [hfm])
    · obtain rfl : i = n := by omega
      rw [List.take_of_length_le (by omega)]
      (repeat' ((try (conv => whnf)); first | (with_reducible first | refine And.intro ?_ ?_ | refine WX.of ?_) | exact zc | ((with_reducible refine VC.mk ?_); exact zw) | (with_reducible first | refine splitT ?_ | refine splitF ?_) | ((with_reducible refine splitM.mk (fun hsm => ?_) (fun hsm => ?_)) <;> (try exact zx)) | ((with_reducible refine splitB.mk (fun h => ?_) (fun h => ?_)) <;> (try simp only [zs, ne_eq] at h) <;> (try simp (disch := omega) only [w64] at h) <;> (try exact zx)) | (with_reducible intro hz; (try exact absurd hz (Nat.succ_ne_zero _)))))
def s_chT : Spec := fun args S => match args, S with
  | [.sl 0 s n x], [.arr (.prod .str (.prod (.int .i64) (.prod (.prod (.prod (.int .i64) (.int .i64)) (.prod (.int .i64) (.int .i64))) (.prod (.prod (.int .i64) (.int .i64)) (.prod (.int .i64) (.int .i64)))))) l 10 wr] => ⟨(s + n ≤ l.length ∧ n ≤ 1048576) ∧ ∀ (j : Nat) (a : StT), l[j]? = some a → a.1.length < 9223372036854775808, .str (if chB (seg l s n) = true then chT (seg l s n) (seg l s n) else []), [.arr (.prod .str (.prod (.int .i64) (.prod (.prod (.prod (.int .i64) (.int .i64)) (.prod (.int .i64) (.int .i64))) (.prod (.prod (.int .i64) (.int .i64)) (.prod (.int .i64) (.int .i64)))))) l 10 wr]⟩
  | _, _ => noSpec
theorem ok_ChainTextS : SpecOk Tryd.prog 18 s_chT := by
  intro args S h; unfold s_chT at h ⊢; (split at h <;> first | exact False.elim h | skip)
  dsimp only at h ⊢
  rename_i s n x l wr
  obtain ⟨⟨h1, h2⟩, ho⟩ := h
  have hL := seg_len h1
  refine funW tabOk (E := [(53, s_l05Ok), (54, s_l05Text)]) ⟨ok_l05Ok, ok_l05Text, trivial⟩ [] (k := 1) (fn := Tryd.f18) rfl rfl rfl rfl rfl rfl ?_
  by_cases hC : chB (seg l s n) = true
  · rw [if_pos hC]
    have hn := ch_len hC
    (repeat' ((try (conv => whnf)); first | (with_reducible first | refine And.intro ?_ ?_ | refine WX.of ?_) | exact zc | ((with_reducible refine VC.mk ?_); exact zw) | ((with_reducible refine VC.mk ?_); exact ⟨⟨h1, h2⟩, ho⟩) | ((with_reducible refine VC.mk ?_); exact ⟨⟨h1, by omega⟩, hC⟩) | ((with_reducible refine splitT_of ?_ ?_); (focus (simp only [hC, Bool.not_true, Bool.not_true, Bool.not_false, decide_true, decide_false]; done))) | ((with_reducible refine splitF_of ?_ ?_); (focus (simp only [hC, Bool.not_true, Bool.not_true, Bool.not_false, decide_true, decide_false]; done))) | (with_reducible first | refine splitT ?_ | refine splitF ?_) | ((with_reducible refine splitM.mk (fun hsm => ?_) (fun hsm => ?_)) <;> (try exact zx)) | ((with_reducible refine splitB.mk (fun h => ?_) (fun h => ?_)) <;> (try simp only [zs, ne_eq] at h) <;> (try simp (disch := omega) only [w64] at h) <;> (try exact zx)) | (with_reducible intro hz; (try exact absurd hz (Nat.succ_ne_zero _)))))
  · rw [if_neg hC]
    have hC : chB (seg l s n) = false := by simpa using hC
    (repeat' ((try (conv => whnf)); first | (with_reducible first | refine And.intro ?_ ?_ | refine WX.of ?_) | exact zc | ((with_reducible refine VC.mk ?_); exact zw) | ((with_reducible refine VC.mk ?_); exact ⟨⟨h1, h2⟩, ho⟩) | ((with_reducible refine splitT_of ?_ ?_); (focus (simp only [hC, Bool.not_false, Bool.not_true, Bool.not_false, decide_true, decide_false]; done))) | ((with_reducible refine splitF_of ?_ ?_); (focus (simp only [hC, Bool.not_false, Bool.not_true, Bool.not_false, decide_true, decide_false]; done))) | (with_reducible first | refine splitT ?_ | refine splitF ?_) | ((with_reducible refine splitM.mk (fun hsm => ?_) (fun hsm => ?_)) <;> (try exact zx)) | ((with_reducible refine splitB.mk (fun h => ?_) (fun h => ?_)) <;> (try simp only [zs, ne_eq] at h) <;> (try simp (disch := omega) only [w64] at h) <;> (try exact zx)) | (with_reducible intro hz; (try exact absurd hz (Nat.succ_ne_zero _)))))
theorem join6 (a b c d e f : List UInt8) : Lib.join [a, b, c, d, e, f] [32] = ((((((((((a ++ [32]) ++ b) ++ [32]) ++ c) ++ [32]) ++ d) ++ [32]) ++ e) ++ [32]) ++ f) := by
  simp [Lib.join, List.intercalate]
theorem sgT_0 {n : Int} (h : 0 ≤ n) : sgT n = dcl n := if_neg (by omega)
theorem stTx_j {L : List StT} {i : Nat} {a : StT} (h : StOk L i a) : stTx L a = Lib.join [a.1, frmT L a, spT a.2.2.1.1.1 a.2.2.1.1.2 a.2.2.1.2.1 a.2.2.1.2.2, frT a.2.2.2.1.1 a.2.2.2.1.2, sgT a.2.2.2.2.1, sgT a.2.2.2.2.2] [32] ++ [10] := by
  rw [join6, sgT_0 h.md.1, sgT_0 h.gd.1]
  rfl
set_option maxHeartbeats 3200000 in
theorem ok_ChainTextI : SpecOk Tryd.prog 20 s_chT := by
  intro args S h; unfold s_chT at h ⊢; (split at h <;> first | exact False.elim h | skip)
  dsimp only at h ⊢
  rename_i s n x l wr
  obtain ⟨⟨h1, h2⟩, ho⟩ := h
  have hL := seg_len h1
  refine funW tabOk (E := [(56, s_l05Ok), (51, s_spTI), (57, s_frTI), (40, s_sgT), (39, s_join)]) ⟨ok_ValidChainI, ok_SpanTextI, ok_FracTextI, ok_decI, ok_join, trivial⟩ [(10, [(2, 1), (2, 2), (2, 3), (2, 4), (8, 0), (11, 0), (11, 1), (14, 0), (14, 1), (14, 2)])] (k := 1) (fn := Tryd.f20) rfl rfl rfl rfl rfl rfl ?_
  by_cases hC : chB (seg l s n) = true
  · rw [if_pos hC]
    have hn := ch_len hC
    (repeat' ((try (conv => whnf)); first | (with_reducible first | refine And.intro ?_ ?_ | refine WX.of ?_) | exact zc | ((with_reducible refine VC.mk ?_); exact zw) | ((with_reducible refine VC.mk ?_); exact ⟨⟨h1, h2⟩, ho⟩) | ((with_reducible refine splitT_of ?_ ?_); (focus (simp only [hC, Bool.not_true, Bool.not_true, Bool.not_false, decide_true, decide_false]; done))) | ((with_reducible refine splitF_of ?_ ?_); (focus (simp only [hC, Bool.not_true, Bool.not_true, Bool.not_false, decide_true, decide_false]; done))) | (with_reducible first | refine splitT ?_ | refine splitF ?_) | ((with_reducible refine splitM.mk (fun hsm => ?_) (fun hsm => ?_)) <;> (try exact zx)) | ((with_reducible refine splitB.mk (fun h => ?_) (fun h => ?_)) <;> (try simp only [zs, ne_eq] at h) <;> (try simp (disch := omega) only [w64] at h) <;> (try exact zx)) | (with_reducible intro hz; (try exact absurd hz (Nat.succ_ne_zero _)))))
    refine loopW tabOk (E := [(56, s_l05Ok), (51, s_spTI), (57, s_frTI), (40, s_sgT), (39, s_join)]) ⟨ok_ValidChainI, ok_SpanTextI, ok_FracTextI, ok_decI, ok_join, trivial⟩ [(10, [(2, 1), (2, 2), (2, 3), (2, 4), (8, 0), (11, 0), (11, 1), (14, 0), (14, 1), (14, 2)])] (σ := Nat) (fun i => [(0, .sl 0 s n x), (3, .str (chT (seg l s n) ((seg l s n).take i))), (10, .sl 0 s n x), (11, .int .i64 n), (12, .int .i64 i)]) (fun i => [.arr (.prod .str (.prod (.int .i64) (.prod (.prod (.prod (.int .i64) (.int .i64)) (.prod (.int .i64) (.int .i64))) (.prod (.prod (.int .i64) (.int .i64)) (.prod (.int .i64) (.int .i64)))))) l 10 wr]) (fun i => n - i) (fun i => i ≤ n) 0 (Nat.zero_le _) ?_ ?_
    · (repeat' ((try (conv => whnf)); first | (with_reducible first | refine And.intro ?_ ?_ | refine WX.of ?_) | exact zc | ((with_reducible refine VC.mk ?_); exact zw) | (with_reducible first | refine splitT ?_ | refine splitF ?_) | ((with_reducible refine splitM.mk (fun hsm => ?_) (fun hsm => ?_)) <;> (try exact zx)) | ((with_reducible refine splitB.mk (fun h => ?_) (fun h => ?_)) <;> (try simp only [zs, ne_eq] at h) <;> (try simp (disch := omega) only [w64] at h) <;> (try exact zx)) | (with_reducible intro hz; (try exact absurd hz (Nat.succ_ne_zero _)))))
    · intro i hi
      have hlen := chT_len hC i (by omega)
      by_cases hlt : i < n
      · obtain ⟨⟨nm, fr, ⟨⟨p, q⟩, p', q'⟩, ⟨dp, dq⟩, md, gd⟩, ha⟩ := get_some (l := seg l s n) (i := i) (by omega)
        have hok := ch_ok hC ha
        have v0 : spOk p q p' q' = true := hok.vl
        have v1 : fOk dp dq = true := hok.dr
        have l0 := wd12 (show wordB nm = true from hok.nm)
        have l1 := frm_len hC ha
        have l2 := spT_len p q p' q'
        have l3 := frT_len dp dq
        have l4 := sgT_20 md
        have l5 := sgT_20 gd
        have hmd : -9223372036854775807 ≤ md ∧ md ≤ 9223372036854775807 := md_c hok
        have hgd : -9223372036854775807 ≤ gd ∧ gd ≤ 9223372036854775807 := gd_c hok
        have hj := join6 nm (frmT (seg l s n) (nm, fr, ((p, q), p', q'), (dp, dq), md, gd)) (spT p q p' q') (frT dp dq) (sgT md) (sgT gd)
        have hjl : (Lib.join [nm, frmT (seg l s n) (nm, fr, ((p, q), p', q'), (dp, dq), md, gd), spT p q p' q', frT dp dq, sgT md, sgT gd] [32]).length ≤ 1000 := by
          rw [hj]; simp only [List.length_append, List.length_cons, List.length_nil]; omega
        have hj2 : (chT (seg l s n) ((seg l s n).take i)).length + (Lib.join [nm, frmT (seg l s n) (nm, fr, ((p, q), p', q'), (dp, dq), md, gd), spT p q p' q', frT dp dq, sgT md, sgT gd] [32] ++ [10]).length ≤ 9223372036854775807 := by
          rw [List.length_append]; simp only [List.length_cons, List.length_nil]; omega
        rcases fr_em fr with hfr | hfr
        · have hfb := fr_b hok hlt hfr
          obtain ⟨⟨nm0, fr0, ⟨⟨p0, q0⟩, p0', q0'⟩, ⟨dp0, dq0⟩, md0, gd0⟩, hb, eb, okb⟩ := ch_z hC (i := fr) (by rw [hL]; exact hfb)
          have hfm : frmT (seg l s n) (nm, fr, ((p, q), p', q'), (dp, dq), md, gd) = nm0 := by unfold frmT; rw [if_pos (by exact hfr)]; dsimp only; rw [eb]
          rw [hfm] at hjl hj2
          (repeat' ((try (conv => whnf)); first | (with_reducible first | refine And.intro ?_ ?_ | refine WX.of ?_) | exact zc | ((with_reducible refine VC.mk ?_); exact zw) | with_reducible refine atL_i ha ?_ | with_reducible refine atL_p (seg_get hb).1 ?_ | ((with_reducible refine VC.mk ?_); exact hmd) | ((with_reducible refine VC.mk ?_); exact hgd) | (with_reducible first | refine splitT ?_ | refine splitF ?_) | ((with_reducible refine splitM.mk (fun hsm => ?_) (fun hsm => ?_)) <;> (try exact zx)) | ((with_reducible refine splitB.mk (fun h => ?_) (fun h => ?_)) <;> (try simp only [zs, ne_eq] at h) <;> (try simp (disch := omega) only [w64] at h) <;> (try exact zx)) | (with_reducible intro hz; (try exact absurd hz (Nat.succ_ne_zero _)))))
          all_goals first
            | exact ⟨hfb⟩
            | (refine ⟨rfl, ⟨by omega, by omega⟩, ?_⟩; simp only [v0, v1, if_true]; exact Nat.le_trans hjl (by omega))
            | (refine ⟨?_⟩; simp only [v0, v1, if_true]; exact Nat.le_trans (Nat.add_le_add_right hjl _) (by simp))
            | (refine ⟨?_⟩; simp only [v0, v1, if_true]; exact hj2)
            | skip
          refine ⟨i + 1, by omega, hlt, ?_⟩
          rw [chT_s ha, stTx_j hok, hfm]
          (repeat' ((try (conv => whnf)); first | (with_reducible first | refine And.intro ?_ ?_ | refine WX.of ?_) | exact zc | ((with_reducible refine VC.mk ?_); exact zw) | (with_reducible first | refine splitT ?_ | refine splitF ?_) | ((with_reducible refine splitM.mk (fun hsm => ?_) (fun hsm => ?_)) <;> (try exact zx)) | ((with_reducible refine splitB.mk (fun h => ?_) (fun h => ?_)) <;> (try simp only [zs, ne_eq] at h) <;> (try simp (disch := omega) only [w64] at h) <;> (try exact zx)) | (with_reducible intro hz; (try exact absurd hz (Nat.succ_ne_zero _)))))
          all_goals (refine ⟨?_⟩; simp only [v0, v1, if_true])
        · have hfm : frmT (seg l s n) (nm, fr, ((p, q), p', q'), (dp, dq), md, gd) = [45] := if_neg hfr
          have hfb := hfr
          rw [hfm] at hjl hj2
          (repeat' ((try (conv => whnf)); first | (with_reducible first | refine And.intro ?_ ?_ | refine WX.of ?_) | exact zc | ((with_reducible refine VC.mk ?_); exact zw) | with_reducible refine atL_i ha ?_ | ((with_reducible refine VC.mk ?_); exact hmd) | ((with_reducible refine VC.mk ?_); exact hgd) | (with_reducible first | refine splitT ?_ | refine splitF ?_) | ((with_reducible refine splitM.mk (fun hsm => ?_) (fun hsm => ?_)) <;> (try exact zx)) | ((with_reducible refine splitB.mk (fun h => ?_) (fun h => ?_)) <;> (try simp only [zs, ne_eq] at h) <;> (try simp (disch := omega) only [w64] at h) <;> (try exact zx)) | (with_reducible intro hz; (try exact absurd hz (Nat.succ_ne_zero _)))))
          all_goals first
            | exact ⟨hfb⟩
            | (refine ⟨rfl, ⟨by omega, by omega⟩, ?_⟩; simp only [v0, v1, if_true]; exact Nat.le_trans hjl (by omega))
            | (refine ⟨?_⟩; simp only [v0, v1, if_true]; exact Nat.le_trans (Nat.add_le_add_right hjl _) (by simp))
            | (refine ⟨?_⟩; simp only [v0, v1, if_true]; exact hj2)
            | skip
          refine ⟨i + 1, by omega, hlt, ?_⟩
          rw [chT_s ha, stTx_j hok, hfm]
          (repeat' ((try (conv => whnf)); first | (with_reducible first | refine And.intro ?_ ?_ | refine WX.of ?_) | exact zc | ((with_reducible refine VC.mk ?_); exact zw) | (with_reducible first | refine splitT ?_ | refine splitF ?_) | ((with_reducible refine splitM.mk (fun hsm => ?_) (fun hsm => ?_)) <;> (try exact zx)) | ((with_reducible refine splitB.mk (fun h => ?_) (fun h => ?_)) <;> (try simp only [zs, ne_eq] at h) <;> (try simp (disch := omega) only [w64] at h) <;> (try exact zx)) | (with_reducible intro hz; (try exact absurd hz (Nat.succ_ne_zero _)))))
          all_goals (refine ⟨?_⟩; simp only [v0, v1, if_true])
      · obtain rfl : i = n := by omega
        rw [List.take_of_length_le (by omega)]
        (repeat' ((try (conv => whnf)); first | (with_reducible first | refine And.intro ?_ ?_ | refine WX.of ?_) | exact zc | ((with_reducible refine VC.mk ?_); exact zw) | (with_reducible first | refine splitT ?_ | refine splitF ?_) | ((with_reducible refine splitM.mk (fun hsm => ?_) (fun hsm => ?_)) <;> (try exact zx)) | ((with_reducible refine splitB.mk (fun h => ?_) (fun h => ?_)) <;> (try simp only [zs, ne_eq] at h) <;> (try simp (disch := omega) only [w64] at h) <;> (try exact zx)) | (with_reducible intro hz; (try exact absurd hz (Nat.succ_ne_zero _)))))
  · rw [if_neg hC]
    have hC : chB (seg l s n) = false := by simpa using hC
    (repeat' ((try (conv => whnf)); first | (with_reducible first | refine And.intro ?_ ?_ | refine WX.of ?_) | exact zc | ((with_reducible refine VC.mk ?_); exact zw) | ((with_reducible refine VC.mk ?_); exact ⟨⟨h1, h2⟩, ho⟩) | ((with_reducible refine splitT_of ?_ ?_); (focus (simp only [hC, Bool.not_false, Bool.not_true, Bool.not_false, decide_true, decide_false]; done))) | ((with_reducible refine splitF_of ?_ ?_); (focus (simp only [hC, Bool.not_false, Bool.not_true, Bool.not_false, decide_true, decide_false]; done))) | (with_reducible first | refine splitT ?_ | refine splitF ?_) | ((with_reducible refine splitM.mk (fun hsm => ?_) (fun hsm => ?_)) <;> (try exact zx)) | ((with_reducible refine splitB.mk (fun h => ?_) (fun h => ?_)) <;> (try simp only [zs, ne_eq] at h) <;> (try simp (disch := omega) only [w64] at h) <;> (try exact zx)) | (with_reducible intro hz; (try exact absurd hz (Nat.succ_ne_zero _)))))
end Go.Proofs.YtinaincgimoanaaDoor.Eng
set_option linter.unusedVariables false
set_option linter.unusedSimpArgs false
namespace Go.Proofs.YtinaincgimoanaaDoor.Eng
open Go Go.RowKit
set_option maxRecDepth 100000
set_option maxHeartbeats 1600000 in
theorem law_chainText {c0 : Bool} {n0 : Nat} {l0 : List StT} (hn0 : n0 ≤ l0.length) (hc0 : c0 = true → l0 = []) (ho0 : ∀ y ∈ l0, ET.Ok (.prod .str (.prod (.int .i64) (.prod (.prod (.prod (.int .i64) (.int .i64)) (.prod (.int .i64) (.int .i64))) (.prod (.prod (.int .i64) (.int .i64)) (.prod (.int .i64) (.int .i64)))))) y) (hz0 : l0.length ≤ 9223372036854775807) : RunsS Tryd.prog 5 [.opt c0 0 n0 0] [.arrO (.prod .str (.prod (.int .i64) (.prod (.prod (.prod (.int .i64) (.int .i64)) (.prod (.int .i64) (.int .i64))) (.prod (.prod (.int .i64) (.int .i64)) (.prod (.int .i64) (.int .i64)))))) l0 10] (.bool true) [.arrO (.prod .str (.prod (.int .i64) (.prod (.prod (.prod (.int .i64) (.int .i64)) (.prod (.int .i64) (.int .i64))) (.prod (.prod (.int .i64) (.int .i64)) (.prod (.int .i64) (.int .i64)))))) l0 10] := by
  have hL : (seg l0 0 n0).length = n0 := seg_len (by omega)
  have hb0 : ∀ (j : Nat) (a : StT), l0[j]? = some a → a.1.length ≤ 9223372036854775807 := fun j a ha => (ho0 a (List.mem_of_getElem? ha)).1
  have hS : seg (seg l0 0 n0) 0 n0 = seg l0 0 n0 := seg_full hL
  have htt : ∀ (j : Nat) (a : StT), (seg l0 0 n0)[j]? = some a → a.1.length ≤ tot (fun a : StT => a.1.length) (seg l0 0 n0) := fun j a ha => tot_at (f := fun a : StT => a.1.length) ha
  refine funW tabOk (E := [(17, s_szStandardS), (19, s_toStandardS), (18, s_chT), (20, s_chT), (21, s_eqStandardS)]) ⟨ok_szStandardS, ok_toStandardS, ok_ChainTextS, ok_ChainTextI, ok_eqStandardS, trivial⟩ [] (k := 1) (fn := Tryd.f5) rfl rfl rfl rfl rfl rfl ?_
  (repeat' ((try (conv => whnf)); first | (with_reducible first | refine And.intro ?_ ?_ | refine WX.of ?_) | exact zc | ((with_reducible refine VC.mk ?_); exact zw) | ((with_reducible refine VC.mk ?_); (refine ⟨⟨?_, ?_⟩, ⟨?_, ?_⟩, ?_, ?_⟩); all_goals first  |  assumption  |  omega) | ((with_reducible refine VC.mk ?_); (refine ⟨?_, ?_, ?_⟩); all_goals first  |  assumption  |  omega) | ((with_reducible refine VC.mk ?_); (refine ⟨⟨?_, ?_⟩, ?_⟩); (omega); (omega); (intro j a ha; have := htt j a ha; omega)) | ((with_reducible refine VC.mk ?_); (try dsimp only); (simp only [hS, hL, and_true, true_and, and_self, ne_eq, not_false_eq_true, not_true_eq_false]); done) | ((with_reducible refine VC.mk ?_); (try dsimp only); (try simp only [hS, hL, and_true, true_and, and_self, ne_eq, not_false_eq_true, not_true_eq_false]); omega) | (with_reducible first | refine splitT ?_ | refine splitF ?_) | ((with_reducible refine splitM.mk (fun hsm => ?_) (fun hsm => ?_)) <;> (try exact zx)) | ((with_reducible refine splitB.mk (fun h => ?_) (fun h => ?_)) <;> (try simp only [zs, ne_eq] at h) <;> (try simp (disch := omega) only [w64] at h) <;> (try exact zx)) | (with_reducible intro hz; (try exact absurd hz (Nat.succ_ne_zero _)))))
end Go.Proofs.YtinaincgimoanaaDoor.Eng
