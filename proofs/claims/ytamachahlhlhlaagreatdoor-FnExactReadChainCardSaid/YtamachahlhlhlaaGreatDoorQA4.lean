/- Lemmas for the proof, no conditions of their own. -/
import Derived.Test.YtamachahlhlhlaaGreatDoorQA3
import Derived.Shelf.Strings.Cut
set_option linter.unusedVariables false
set_option linter.unusedSimpArgs false
namespace Go.Proofs.YtamachahlhlhlaaGreatDoor.Eng
open Go Go.RowKit
set_option maxRecDepth 100000
def s_good : Spec := fun args S => match args, S with
  | [.agg [.str nm, .int .i64 fr, .int .i64 p, .int .i64 q, .int .i64 p', .int .i64 q', .int .i64 dp, .int .i64 dq, .int .i64 md, .int .i64 gd], .int .i64 d], [] => ⟨(0 ≤ md ∧ md ≤ 100000) ∧ 0 ≤ gd ∧ gd ≤ 100000, .bool (gdB (nm, fr, ((p, q), p', q'), (dp, dq), md, gd) d), []⟩
  | _, _ => noSpec
theorem ok_good : SpecOk Tryz.prog 159 s_good := by
  intro args S h; unfold s_good at h ⊢; (split at h <;> first | exact False.elim h | skip)
  dsimp only at h ⊢
  refine funW tabOk (E := [(106, s_within)]) ⟨ok_within, trivial⟩ [] (k := 0) (fn := Tryz.f159) rfl rfl rfl rfl rfl rfl ?_
  (repeat' ((try (conv => whnf)); first | (with_reducible first | refine And.intro ?_ ?_ | refine WX.of ?_) | exact zc | ((with_reducible refine VC.mk ?_); exact zw) | (with_reducible first | refine splitT ?_ | refine splitF ?_) | ((with_reducible refine splitM.mk (fun hsm => ?_) (fun hsm => ?_)) <;> (try exact zx)) | ((with_reducible refine splitB.mk (fun h => ?_) (fun h => ?_)) <;> (try simp only [zs, ne_eq] at h) <;> (try simp (disch := omega) only [w64] at h) <;> (try exact zx)) | (with_reducible intro hz; (try exact absurd hz (Nat.succ_ne_zero _)))))
  all_goals (refine ⟨?_⟩; simp (disch := omega) only [w64]; rfl)
theorem bd2 {a b : Int} (h : (0 ≤ a ∧ a ≤ 100000) ∧ 0 ≤ b ∧ b ≤ 100000) : (0 ≤ a ∧ a ≤ 100000) ∧ 0 ≤ b ∧ b ≤ 100000 := h
def s_l05Good : Spec := fun args S => match args, S with
  | [.ptr 0 i 0, .int .i64 d], [.arr (.prod .str (.prod (.int .i64) (.prod (.prod (.prod (.int .i64) (.int .i64)) (.prod (.int .i64) (.int .i64))) (.prod (.prod (.int .i64) (.int .i64)) (.prod (.int .i64) (.int .i64)))))) l 10 wr] => ⟨i < l.length ∧ (0 ≤ ((l[i]?).getD stD).2.2.2.2.1 ∧ ((l[i]?).getD stD).2.2.2.2.1 ≤ 100000) ∧ 0 ≤ ((l[i]?).getD stD).2.2.2.2.2 ∧ ((l[i]?).getD stD).2.2.2.2.2 ≤ 100000, .bool (gdB ((l[i]?).getD stD) d), [.arr (.prod .str (.prod (.int .i64) (.prod (.prod (.prod (.int .i64) (.int .i64)) (.prod (.int .i64) (.int .i64))) (.prod (.prod (.int .i64) (.int .i64)) (.prod (.int .i64) (.int .i64)))))) l 10 wr]⟩
  | _, _ => noSpec
theorem ok_l05Good : SpecOk Tryz.prog 243 s_l05Good := by
  intro args S h; unfold s_l05Good at h ⊢; (split at h <;> first | exact False.elim h | skip)
  dsimp only at h ⊢
  rename_i i d l wr
  obtain ⟨hi, hb⟩ := h
  obtain ⟨⟨nm, fr, ⟨⟨p, q⟩, p', q'⟩, ⟨dp, dq⟩, md, gd⟩, ha⟩ := get_some hi
  rw [show (l[i]?).getD stD = (nm, fr, ((p, q), p', q'), (dp, dq), md, gd) from by rw [ha]; rfl] at hb ⊢
  have hb := bd2 hb
  dsimp only at hb
  refine funW tabOk (E := []) trivial [] (k := 1) (fn := Tryz.f243) rfl rfl rfl rfl rfl rfl ?_
  (repeat' ((try (conv => whnf)); first | (with_reducible first | refine And.intro ?_ ?_ | refine WX.of ?_) | exact zc | ((with_reducible refine VC.mk ?_); exact zw) | with_reducible refine atL_p ha ?_ | (with_reducible first | refine splitT ?_ | refine splitF ?_) | ((with_reducible refine splitM.mk (fun hsm => ?_) (fun hsm => ?_)) <;> (try exact zx)) | ((with_reducible refine splitB.mk (fun h => ?_) (fun h => ?_)) <;> (try simp only [zs, ne_eq] at h) <;> (try simp (disch := omega) only [w64] at h) <;> (try exact zx)) | (with_reducible intro hz; (try exact absurd hz (Nat.succ_ne_zero _)))))
  all_goals (refine ⟨congrArg SV.bool ?_⟩; unfold gdB; (try simp (disch := omega) only [w64]); first | (simp; omega) | (rw [Bool.eq_iff_iff]; simp; omega))
def s_l05Day : Spec := fun args S => match args, S with
  | [.int .i64 d], [] => ⟨True, .bool (dyB d), []⟩
  | _, _ => noSpec
theorem ok_l05Day : SpecOk Tryz.prog 240 s_l05Day := by
  intro args S h; unfold s_l05Day at h ⊢; (split at h <;> first | exact False.elim h | skip)
  dsimp only at h ⊢
  refine funW tabOk (E := [(198, s_within)]) ⟨ok_l00In, trivial⟩ [] (k := 0) (fn := Tryz.f240) rfl rfl rfl rfl rfl rfl ?_
  (repeat' ((try (conv => whnf)); first | (with_reducible first | refine And.intro ?_ ?_ | refine WX.of ?_) | exact zc | ((with_reducible refine VC.mk ?_); exact zw) | (with_reducible first | refine splitT ?_ | refine splitF ?_) | ((with_reducible refine splitM.mk (fun hsm => ?_) (fun hsm => ?_)) <;> (try exact zx)) | ((with_reducible refine splitB.mk (fun h => ?_) (fun h => ?_)) <;> (try simp only [zs, ne_eq] at h) <;> (try simp (disch := omega) only [w64] at h) <;> (try exact zx)) | (with_reducible intro hz; (try exact absurd hz (Nat.succ_ne_zero _)))))
/-- The span of a standard, by its pointer. -/
def s_l01SpanV : Spec := fun args S => match args, S with
  | [.ptr 0 i 2], [.arr (.prod .str (.prod (.int .i64) (.prod (.prod (.prod (.int .i64) (.int .i64)) (.prod (.int .i64) (.int .i64))) (.prod (.prod (.int .i64) (.int .i64)) (.prod (.int .i64) (.int .i64)))))) l 10 wr] => ⟨i < l.length, .bool (spB ((l[i]?).getD stD).2.2.1), [.arr (.prod .str (.prod (.int .i64) (.prod (.prod (.prod (.int .i64) (.int .i64)) (.prod (.int .i64) (.int .i64))) (.prod (.prod (.int .i64) (.int .i64)) (.prod (.int .i64) (.int .i64)))))) l 10 wr]⟩
  | _, _ => noSpec
theorem ok_l01SpanV : SpecOk Tryz.prog 248 s_l01SpanV := by
  intro args S h; unfold s_l01SpanV at h ⊢; (split at h <;> first | exact False.elim h | skip)
  dsimp only at h ⊢
  rename_i i l wr
  obtain ⟨⟨nm, fr, ⟨⟨p, q⟩, p', q'⟩, ⟨dp, dq⟩, md, gd⟩, ha⟩ := get_some h
  rw [show (l[i]?).getD stD = (nm, fr, ((p, q), p', q'), (dp, dq), md, gd) from by rw [ha]; rfl]
  have hc := cmpF_le (p := p) (q := q) (p' := p') (q' := q')
  refine funW tabOk (E := [(192, s_fOk), (230, s_cmp)]) ⟨ok_l01Ok, ok_l01Cmp, trivial⟩ [] (k := 1) (fn := Tryz.f248) rfl rfl rfl rfl rfl rfl ?_
  (repeat' ((try (conv => whnf)); first | (with_reducible first | refine And.intro ?_ ?_ | refine WX.of ?_) | exact zc | ((with_reducible refine VC.mk ?_); exact zw) | with_reducible refine atL_p ha ?_ | (with_reducible first | refine splitT ?_ | refine splitF ?_) | ((with_reducible refine splitM.mk (fun hsm => ?_) (fun hsm => ?_)) <;> (try exact zx)) | ((with_reducible refine splitB.mk (fun h => ?_) (fun h => ?_)) <;> (try simp only [zs, ne_eq] at h) <;> (try simp (disch := omega) only [w64] at h) <;> (try exact zx)) | (with_reducible intro hz; (try exact absurd hz (Nat.succ_ne_zero _)))))
  · rename_i h1
    exact ⟨⟨smF_ok h1, smF_ok h⟩⟩
  · rename_i h1
    exact ⟨congrArg SV.bool (by unfold spB spOk; dsimp only; rw [h1, h]; simp only [hc, Bool.true_and])⟩
  · rename_i h1
    exact ⟨congrArg SV.bool (by unfold spB spOk; dsimp only; rw [h1, h]; rfl)⟩
  · exact ⟨congrArg SV.bool (by unfold spB spOk; dsimp only; rw [h]; rfl)⟩
def s_clCh : Spec := fun args S => match args, S with
  | [.agg [.str nm, .int .i64 fr, .int .i64 p, .int .i64 q, .int .i64 p', .int .i64 q', .int .i64 dp, .int .i64 dq, .int .i64 md, .int .i64 gd], .ptr 0 0 0], [.arr (.prod .str (.prod (.int .i64) (.prod (.prod (.prod (.int .i64) (.int .i64)) (.prod (.int .i64) (.int .i64))) (.prod (.prod (.int .i64) (.int .i64)) (.prod (.int .i64) (.int .i64)))))) [o] 0 true] => ⟨True, .bool (decide (nm = o.1)), [.arr (.prod .str (.prod (.int .i64) (.prod (.prod (.prod (.int .i64) (.int .i64)) (.prod (.int .i64) (.int .i64))) (.prod (.prod (.int .i64) (.int .i64)) (.prod (.int .i64) (.int .i64)))))) [o] 0 true]⟩
  | _, _ => noSpec
theorem ok_ValidChain1 : SpecOk Tryz.prog 158 s_clCh := by
  intro args S h; unfold s_clCh at h ⊢; (split at h <;> first | exact False.elim h | skip)
  dsimp only at h ⊢
  refine funW tabOk (E := []) trivial [] (k := 1) (fn := Tryz.f158) rfl rfl rfl rfl rfl rfl ?_
  (repeat' ((try (conv => whnf)); first | (with_reducible first | refine And.intro ?_ ?_ | refine WX.of ?_) | exact zc | ((with_reducible refine VC.mk ?_); exact zw) | (with_reducible first | refine splitT ?_ | refine splitF ?_) | ((with_reducible refine splitM.mk (fun hsm => ?_) (fun hsm => ?_)) <;> (try exact zx)) | ((with_reducible refine splitB.mk (fun h => ?_) (fun h => ?_)) <;> (try simp only [zs, ne_eq] at h) <;> (try simp (disch := omega) only [w64] at h) <;> (try exact zx)) | (with_reducible intro hz; (try exact absurd hz (Nat.succ_ne_zero _)))))
def s_idxCh (g : Nat) : Spec := fun args S => match args, S with
  | [.sl 0 q0 n0 x0, .fn g' [.ptr 1 0 0]], [.arr (.prod .str (.prod (.int .i64) (.prod (.prod (.prod (.int .i64) (.int .i64)) (.prod (.int .i64) (.int .i64))) (.prod (.prod (.int .i64) (.int .i64)) (.prod (.int .i64) (.int .i64)))))) l0 10 wr0, .arr (.prod .str (.prod (.int .i64) (.prod (.prod (.prod (.int .i64) (.int .i64)) (.prod (.int .i64) (.int .i64))) (.prod (.prod (.int .i64) (.int .i64)) (.prod (.int .i64) (.int .i64)))))) [o] 0 true] => ⟨g' = g ∧ (q0 + n0 ≤ l0.length ∧ n0 ≤ 4611686018427387904) ∧ True, .int .i64 (findI (fun a : StT => decide (a.1 = o.1)) (seg l0 q0 n0)), [.arr (.prod .str (.prod (.int .i64) (.prod (.prod (.prod (.int .i64) (.int .i64)) (.prod (.int .i64) (.int .i64))) (.prod (.prod (.int .i64) (.int .i64)) (.prod (.int .i64) (.int .i64)))))) l0 10 wr0, .arr (.prod .str (.prod (.int .i64) (.prod (.prod (.prod (.int .i64) (.int .i64)) (.prod (.int .i64) (.int .i64))) (.prod (.prod (.int .i64) (.int .i64)) (.prod (.int .i64) (.int .i64)))))) [o] 0 true]⟩
  | _, _ => noSpec
theorem ok_idxCh : SpecOk Tryz.prog 154 (s_idxCh 158) := by
  intro args S h; unfold s_idxCh at h ⊢; (split at h <;> first | exact False.elim h | skip)
  dsimp only at h ⊢
  rename_i q0 n0 x0 g l0 wr0 o
  obtain ⟨rfl, ⟨h1, h2⟩, hcp⟩ := h
  have hL := seg_len h1
  refine funW tabOk (E := [(158, s_clCh)]) ⟨ok_ValidChain1, trivial⟩ [] (k := 2) (fn := Tryz.f154) rfl rfl rfl rfl rfl rfl ?_
  (repeat' ((try (conv => whnf)); first | (with_reducible first | refine And.intro ?_ ?_ | refine WX.of ?_) | exact zc | ((with_reducible refine VC.mk ?_); exact zw) | (with_reducible first | refine splitT ?_ | refine splitF ?_) | ((with_reducible refine splitM.mk (fun hsm => ?_) (fun hsm => ?_)) <;> (try exact zx)) | ((with_reducible refine splitB.mk (fun h => ?_) (fun h => ?_)) <;> (try simp only [zs, ne_eq] at h) <;> (try simp (disch := omega) only [w64] at h) <;> (try exact zx)) | (with_reducible intro hz; (try exact absurd hz (Nat.succ_ne_zero _)))))
  refine loopW tabOk (E := [(158, s_clCh)]) ⟨ok_ValidChain1, trivial⟩ [] (σ := Nat) (fun i => [(0, .sl 0 q0 n0 x0), (1, .fn 158 [.ptr 1 0 0]), (7, .int .i64 n0), (8, .int .i64 i)]) (fun i => [.arr (.prod .str (.prod (.int .i64) (.prod (.prod (.prod (.int .i64) (.int .i64)) (.prod (.int .i64) (.int .i64))) (.prod (.prod (.int .i64) (.int .i64)) (.prod (.int .i64) (.int .i64)))))) l0 10 wr0, .arr (.prod .str (.prod (.int .i64) (.prod (.prod (.prod (.int .i64) (.int .i64)) (.prod (.int .i64) (.int .i64))) (.prod (.prod (.int .i64) (.int .i64)) (.prod (.int .i64) (.int .i64)))))) [o] 0 true]) (fun i => n0 - i) (fun i => i ≤ n0 ∧ ∀ (j : Nat) a, j < i → (seg l0 q0 n0)[j]? = some a → (fun a : StT => decide (a.1 = o.1)) a = false) 0 ⟨Nat.zero_le _, fun j a hj => by omega⟩ ?_ ?_
  · (repeat' ((try (conv => whnf)); first | (with_reducible first | refine And.intro ?_ ?_ | refine WX.of ?_) | exact zc | ((with_reducible refine VC.mk ?_); exact zw) | (with_reducible first | refine splitT ?_ | refine splitF ?_) | ((with_reducible refine splitM.mk (fun hsm => ?_) (fun hsm => ?_)) <;> (try exact zx)) | ((with_reducible refine splitB.mk (fun h => ?_) (fun h => ?_)) <;> (try simp only [zs, ne_eq] at h) <;> (try simp (disch := omega) only [w64] at h) <;> (try exact zx)) | (with_reducible intro hz; (try exact absurd hz (Nat.succ_ne_zero _)))))
  · intro ii ⟨hi, hp⟩
    by_cases hlt : ii < n0
    · obtain ⟨⟨nm, fr, ⟨⟨p, q⟩, p', q'⟩, ⟨dp, dq⟩, md, gd⟩, ha⟩ := get_some (l := seg l0 q0 n0) (i := ii) (by omega)
      (repeat' ((try (conv => whnf)); first | (with_reducible first | refine And.intro ?_ ?_ | refine WX.of ?_) | exact zc | ((with_reducible refine VC.mk ?_); exact zw) | refine atL_i ha ?_ | ((with_reducible refine VC.mk ?_); exact hcp) | (with_reducible first | refine splitT ?_ | refine splitF ?_) | ((with_reducible refine splitM.mk (fun hsm => ?_) (fun hsm => ?_)) <;> (try exact zx)) | ((with_reducible refine splitB.mk (fun h => ?_) (fun h => ?_)) <;> (try simp only [zs, ne_eq] at h) <;> (try simp (disch := omega) only [w64] at h) <;> (try exact zx)) | (with_reducible intro hz; (try exact absurd hz (Nat.succ_ne_zero _)))))
      · exact ⟨by rw [findI_some ha (by first | (simpa [decide_eq_true_eq] using h; done) | (simp [decide_eq_true_eq] at h ⊢; omega)) hp]⟩
      · refine ⟨ii + 1, by omega, ⟨hlt, upto_step ha (by first | (simpa [decide_eq_true_eq] using h; done) | (simp [decide_eq_true_eq] at h ⊢; omega)) hp⟩, ?_⟩
        (repeat' ((try (conv => whnf)); first | (with_reducible first | refine And.intro ?_ ?_ | refine WX.of ?_) | exact zc | ((with_reducible refine VC.mk ?_); exact zw) | (with_reducible first | refine splitT ?_ | refine splitF ?_) | ((with_reducible refine splitM.mk (fun hsm => ?_) (fun hsm => ?_)) <;> (try exact zx)) | ((with_reducible refine splitB.mk (fun h => ?_) (fun h => ?_)) <;> (try simp only [zs, ne_eq] at h) <;> (try simp (disch := omega) only [w64] at h) <;> (try exact zx)) | (with_reducible intro hz; (try exact absurd hz (Nat.succ_ne_zero _)))))
    · (repeat' ((try (conv => whnf)); first | (with_reducible first | refine And.intro ?_ ?_ | refine WX.of ?_) | exact zc | ((with_reducible refine VC.mk ?_); exact zw) | (with_reducible first | refine splitT ?_ | refine splitF ?_) | ((with_reducible refine splitM.mk (fun hsm => ?_) (fun hsm => ?_)) <;> (try exact zx)) | ((with_reducible refine splitB.mk (fun h => ?_) (fun h => ?_)) <;> (try simp only [zs, ne_eq] at h) <;> (try simp (disch := omega) only [w64] at h) <;> (try exact zx)) | (with_reducible intro hz; (try exact absurd hz (Nat.succ_ne_zero _)))))
      exact ⟨by rw [findI_none fun j a hj => hp j a (by have := (List.getElem?_eq_some_iff.1 hj).1; omega) hj]⟩
def s_anyCh (g : Nat) : Spec := fun args S => match args, S with
  | [.sl 0 q0 n0 x0, .fn g' [.ptr 1 0 0]], [.arr (.prod .str (.prod (.int .i64) (.prod (.prod (.prod (.int .i64) (.int .i64)) (.prod (.int .i64) (.int .i64))) (.prod (.prod (.int .i64) (.int .i64)) (.prod (.int .i64) (.int .i64)))))) l0 10 wr0, .arr (.prod .str (.prod (.int .i64) (.prod (.prod (.prod (.int .i64) (.int .i64)) (.prod (.int .i64) (.int .i64))) (.prod (.prod (.int .i64) (.int .i64)) (.prod (.int .i64) (.int .i64)))))) [o] 0 true] => ⟨g' = g ∧ (q0 + n0 ≤ l0.length ∧ n0 ≤ 4611686018427387904) ∧ True, .bool ((seg l0 q0 n0).any (fun a : StT => decide (a.1 = o.1))), [.arr (.prod .str (.prod (.int .i64) (.prod (.prod (.prod (.int .i64) (.int .i64)) (.prod (.int .i64) (.int .i64))) (.prod (.prod (.int .i64) (.int .i64)) (.prod (.int .i64) (.int .i64)))))) l0 10 wr0, .arr (.prod .str (.prod (.int .i64) (.prod (.prod (.prod (.int .i64) (.int .i64)) (.prod (.int .i64) (.int .i64))) (.prod (.prod (.int .i64) (.int .i64)) (.prod (.int .i64) (.int .i64)))))) [o] 0 true]⟩
  | _, _ => noSpec
theorem ok_anyCh : SpecOk Tryz.prog 157 (s_anyCh 158) := by
  intro args S h; unfold s_anyCh at h ⊢; (split at h <;> first | exact False.elim h | skip)
  dsimp only at h ⊢
  rename_i q0 n0 x0 g l0 wr0 o
  obtain ⟨rfl, h1, h2⟩ := h
  refine funW tabOk (E := [(154, (s_idxCh 158))]) ⟨ok_idxCh, trivial⟩ [] (k := 2) (fn := Tryz.f157) rfl rfl rfl rfl rfl rfl ?_
  (repeat' ((try (conv => whnf)); first | (with_reducible first | refine And.intro ?_ ?_ | refine WX.of ?_) | exact zc | ((with_reducible refine VC.mk ?_); exact zw) | ((with_reducible refine VC.mk ?_); exact ⟨rfl, h1, h2⟩) | (with_reducible first | refine splitT ?_ | refine splitF ?_) | ((with_reducible refine splitM.mk (fun hsm => ?_) (fun hsm => ?_)) <;> (try exact zx)) | ((with_reducible refine splitB.mk (fun h => ?_) (fun h => ?_)) <;> (try simp only [zs, ne_eq] at h) <;> (try simp (disch := omega) only [w64] at h) <;> (try exact zx)) | (with_reducible intro hz; (try exact absurd hz (Nat.succ_ne_zero _)))))
  exact ⟨by rw [findI_any]⟩
theorem s3_take {L : List StT} {i : Nat} {x : StT} (hi : i ≤ L.length) : s3B (L.take i) i x = s3B L i x := by
  unfold s3B
  by_cases h : -1 ≤ x.2.1 ∧ x.2.1 ≤ (i : Int) - 1
  · by_cases h0 : x.2.1 < 0
    · simp [h0]
    · have : stAt (L.take i) x.2.1 = stAt L x.2.1 := by
        unfold stAt; rw [List.getElem?_take, if_pos (by omega)]
      rw [this]
  · simp [h]
/-- A standard behind n others. -/
def s_l05Std : Spec := fun args S => match args, S with
  | [.sl 0 s n x, .ptr 0 i 0], [.arr (.prod .str (.prod (.int .i64) (.prod (.prod (.prod (.int .i64) (.int .i64)) (.prod (.int .i64) (.int .i64))) (.prod (.prod (.int .i64) (.int .i64)) (.prod (.int .i64) (.int .i64)))))) l 10 wr] => ⟨s + n ≤ l.length ∧ n ≤ 1048576 ∧ i < l.length ∧ ∀ (j : Nat) (a : StT), (seg l s n)[j]? = some a → s2B a = true, .bool (s2B ((l[i]?).getD stD) && s3B (seg l s n) n ((l[i]?).getD stD)), [.arr (.prod .str (.prod (.int .i64) (.prod (.prod (.prod (.int .i64) (.int .i64)) (.prod (.int .i64) (.int .i64))) (.prod (.prod (.int .i64) (.int .i64)) (.prod (.int .i64) (.int .i64)))))) l 10 wr]⟩
  | _, _ => noSpec
theorem s2_of {x : StT} (h : s2B x = true) : (0 ≤ x.2.2.2.2.1 ∧ x.2.2.2.2.1 ≤ 100000) ∧ 0 ≤ x.2.2.2.2.2 ∧ x.2.2.2.2.2 ≤ 100000 := by
  unfold s2B dyB at h; simp only [Bool.and_eq_true, decide_eq_true_eq] at h; exact ⟨h.1.2, h.2⟩
theorem in_em (a : Int) (n : Nat) : (0 ≤ a ∧ a ≤ (n : Int) - 1) ∨ ¬ (0 ≤ a ∧ a ≤ (n : Int) - 1) := Decidable.em _
theorem s3_neg {L : List StT} {n : Nat} {x : StT} (h : x.2.1 = -1) : s3B L n x = true := by
  unfold s3B
  rw [decide_eq_true (show -1 ≤ x.2.1 ∧ x.2.1 ≤ (n : Int) - 1 from ⟨by omega, by omega⟩), decide_eq_true (show x.2.1 < 0 by omega)]; rfl
theorem s3_in {L : List StT} {n : Nat} {x : StT} (h : 0 ≤ x.2.1 ∧ x.2.1 ≤ (n : Int) - 1) : s3B L n x = gdB (stAt L x.2.1) x.2.2.2.2.1 := by
  unfold s3B
  rw [decide_eq_true (show -1 ≤ x.2.1 ∧ x.2.1 ≤ (n : Int) - 1 from ⟨by omega, by omega⟩), decide_eq_false (show ¬ x.2.1 < 0 by omega)]; rfl
theorem s3_out {L : List StT} {n : Nat} {x : StT} (h : ¬ x.2.1 = -1) (h2 : ¬ (0 ≤ x.2.1 ∧ x.2.1 ≤ (n : Int) - 1)) : s3B L n x = false := by
  unfold s3B
  rw [decide_eq_false (show ¬ (-1 ≤ x.2.1 ∧ x.2.1 ≤ (n : Int) - 1) by omega)]; rfl
theorem ok_l05Standard : SpecOk Tryz.prog 250 s_l05Std := by
  intro args S h; unfold s_l05Std at h ⊢; (split at h <;> first | exact False.elim h | skip)
  dsimp only at h ⊢
  rename_i s n x i l wr
  obtain ⟨h1, h2, hi, hb⟩ := h
  have hL := seg_len h1
  obtain ⟨⟨nm, fr, ⟨⟨p, q⟩, p', q'⟩, ⟨dp, dq⟩, md, gd⟩, ha⟩ := get_some hi
  have e : (l[i]?).getD stD = (nm, fr, ((p, q), p', q'), (dp, dq), md, gd) := by rw [ha]; rfl
  have hsp : spB ((l[i]?).getD stD).2.2.1 = spB ((p, q), p', q') := by rw [e]
  rcases in_em fr n with hin | hin
  · obtain ⟨y, hy⟩ := get_some (l := seg l s n) (i := fr.toNat) (by omega)
    have hyb := s2_of (hb _ _ hy)
    have hyl := (seg_get hy).1
    have hey : (l[s + fr.toNat]?).getD stD = y := by rw [hyl]; rfl
    have hay : stAt (seg l s n) fr = y := stAt_z hy
    have h3 : s3B (seg l s n) n (nm, fr, ((p, q), p', q'), (dp, dq), md, gd) = gdB y md := by rw [s3_in (by exact hin)]; dsimp only; rw [hay]
    rw [e]
    refine funW tabOk (E := [(248, s_l01SpanV), (192, s_fOk), (240, s_l05Day), (198, s_within), (243, s_l05Good)]) ⟨ok_l01SpanV, ok_l01Ok, ok_l05Day, ok_l00In, ok_l05Good, trivial⟩ [] (k := 1) (fn := Tryz.f250) rfl rfl rfl rfl rfl rfl ?_
    (repeat' ((try (conv => whnf)); first | (with_reducible first | refine And.intro ?_ ?_ | refine WX.of ?_) | exact zc | ((with_reducible refine VC.mk ?_); exact zw) | with_reducible refine atL_p ha ?_ | ((with_reducible refine VC.mk ?_); exact ⟨(List.getElem?_eq_some_iff.1 hyl).1, by rw [hey]; exact hyb⟩) | (with_reducible first | refine splitT ?_ | refine splitF ?_) | ((with_reducible refine splitM.mk (fun hsm => ?_) (fun hsm => ?_)) <;> (try exact zx)) | ((with_reducible refine splitB.mk (fun h => ?_) (fun h => ?_)) <;> (try simp only [zs, ne_eq] at h) <;> (try simp (disch := omega) only [w64] at h) <;> (try exact zx)) | (with_reducible intro hz; (try exact absurd hz (Nat.succ_ne_zero _)))))
    all_goals (refine ⟨congrArg SV.bool ?_⟩; (try rw [hsp] at *); (try dsimp only at *); rw [h3]; (try rw [hey]); first | (exfalso; omega) | (unfold s2B; dsimp only; simp [*]; done) | (unfold s2B; dsimp only; simp [*]; intros; omega))
  · have h3 : s3B (seg l s n) n (nm, fr, ((p, q), p', q'), (dp, dq), md, gd) = decide (fr = -1) := by
      by_cases h4 : fr = -1
      · rw [s3_neg (by exact h4), decide_eq_true h4]
      · rw [s3_out (by exact h4) (by exact hin), decide_eq_false h4]
    rw [e]
    refine funW tabOk (E := [(248, s_l01SpanV), (192, s_fOk), (240, s_l05Day), (198, s_within), (243, s_l05Good)]) ⟨ok_l01SpanV, ok_l01Ok, ok_l05Day, ok_l00In, ok_l05Good, trivial⟩ [] (k := 1) (fn := Tryz.f250) rfl rfl rfl rfl rfl rfl ?_
    (repeat' ((try (conv => whnf)); first | (with_reducible first | refine And.intro ?_ ?_ | refine WX.of ?_) | exact zc | ((with_reducible refine VC.mk ?_); exact zw) | with_reducible refine atL_p ha ?_ | (with_reducible first | refine splitT ?_ | refine splitF ?_) | ((with_reducible refine splitM.mk (fun hsm => ?_) (fun hsm => ?_)) <;> (try exact zx)) | ((with_reducible refine splitB.mk (fun h => ?_) (fun h => ?_)) <;> (try simp only [zs, ne_eq] at h) <;> (try simp (disch := omega) only [w64] at h) <;> (try exact zx)) | (with_reducible intro hz; (try exact absurd hz (Nat.succ_ne_zero _)))))
    all_goals (first | (exfalso; omega) | (refine ⟨congrArg SV.bool ?_⟩; (try rw [hsp] at *); (try dsimp only at *); rw [h3]; unfold s2B; dsimp only; simp [*]; done) | (refine ⟨congrArg SV.bool ?_⟩; rw [h3]; unfold s2B; dsimp only; simp [*]; intros; omega))
def s_l05Ok : Spec := fun args S => match args, S with
  | [.sl 0 s n x], [.arr (.prod .str (.prod (.int .i64) (.prod (.prod (.prod (.int .i64) (.int .i64)) (.prod (.int .i64) (.int .i64))) (.prod (.prod (.int .i64) (.int .i64)) (.prod (.int .i64) (.int .i64)))))) l 10 wr] => ⟨(s + n ≤ l.length ∧ n ≤ 1048576) ∧ ∀ (j : Nat) (a : StT), l[j]? = some a → a.1.length < 9223372036854775808, .bool (chB (seg l s n)), [.arr (.prod .str (.prod (.int .i64) (.prod (.prod (.prod (.int .i64) (.int .i64)) (.prod (.int .i64) (.int .i64))) (.prod (.prod (.int .i64) (.int .i64)) (.prod (.int .i64) (.int .i64)))))) l 10 wr]⟩
  | _, _ => noSpec
theorem seg_atD {α : Type} {l : List α} {s n i : Nat} {a : α} {d : α} (h : (seg l s n)[i]? = some a) : (l[s + i]?).getD d = a := by rw [(seg_get h).1]; rfl
theorem ok_l05Ok : SpecOk Tryz.prog 172 s_l05Ok := by
  intro args S h; unfold s_l05Ok at h ⊢; (split at h <;> first | exact False.elim h | skip)
  dsimp only at h ⊢
  rename_i s n x l wr
  obtain ⟨⟨h1, h2⟩, ho⟩ := h
  have hL := seg_len h1
  refine funW tabOk (E := [(196, s_word), (250, s_l05Std)]) ⟨ok_l05Name, ok_l05Standard, trivial⟩ [] (k := 1) (fn := Tryz.f172) rfl rfl rfl rfl rfl rfl ?_
  (repeat' ((try (conv => whnf)); first | (with_reducible first | refine And.intro ?_ ?_ | refine WX.of ?_) | exact zc | ((with_reducible refine VC.mk ?_); exact zw) | (with_reducible first | refine splitT ?_ | refine splitF ?_) | ((with_reducible refine splitM.mk (fun hsm => ?_) (fun hsm => ?_)) <;> (try exact zx)) | ((with_reducible refine splitB.mk (fun h => ?_) (fun h => ?_)) <;> (try simp only [zs, ne_eq] at h) <;> (try simp (disch := omega) only [w64] at h) <;> (try exact zx)) | (with_reducible intro hz; (try exact absurd hz (Nat.succ_ne_zero _)))))
  · exact ⟨congrArg SV.bool (by unfold chB; rw [hL, show decide (n ≤ 30) = false from decide_eq_false (by omega), Bool.and_false])⟩
  · have hn30 := h
    refine loopW tabOk (E := [(196, s_word), (250, s_l05Std)]) ⟨ok_l05Name, ok_l05Standard, trivial⟩ [] (σ := Nat) (fun i => [(0, .sl 0 s n x), (3, .int .i64 i)]) (fun i => [.arr (.prod .str (.prod (.int .i64) (.prod (.prod (.prod (.int .i64) (.int .i64)) (.prod (.int .i64) (.int .i64))) (.prod (.prod (.int .i64) (.int .i64)) (.prod (.int .i64) (.int .i64)))))) l 10 wr]) (fun i => n - i) (fun i => i ≤ n ∧ ∀ (j : Nat) (a : StT), j < i → (seg l s n)[j]? = some a → stB (seg l s n) j a = true) 0 ⟨Nat.zero_le _, fun j a hj => by omega⟩ ?_ ?_
    · (repeat' ((try (conv => whnf)); first | (with_reducible first | refine And.intro ?_ ?_ | refine WX.of ?_) | exact zc | ((with_reducible refine VC.mk ?_); exact zw) | (with_reducible first | refine splitT ?_ | refine splitF ?_) | ((with_reducible refine splitM.mk (fun hsm => ?_) (fun hsm => ?_)) <;> (try exact zx)) | ((with_reducible refine splitB.mk (fun h => ?_) (fun h => ?_)) <;> (try simp only [zs, ne_eq] at h) <;> (try simp (disch := omega) only [w64] at h) <;> (try exact zx)) | (with_reducible intro hz; (try exact absurd hz (Nat.succ_ne_zero _)))))
    · intro i ⟨hi, hp⟩
      by_cases hlt : i < n
      · obtain ⟨⟨nm, fr, ⟨⟨p, q⟩, p', q'⟩, ⟨dp, dq⟩, md, gd⟩, ha⟩ := get_some (l := seg l s n) (i := i) (by omega)
        have hno := ho _ _ (seg_get ha).1
        dsimp only at hno
        have hsg := seg_take (l := l) (s := s) (m := n) (i := i) (by omega)
        have hse := seg_atD (d := stD) ha
        have hst : ∀ (j : Nat) (a : StT), (seg l s i)[j]? = some a → s2B a = true := fun j a hj => by
          rw [hsg, List.getElem?_take] at hj
          split at hj
          · have := hp j a (by omega) hj
            unfold stB at this; simp only [Bool.and_eq_true] at this; exact this.1.2
          · simp at hj
        have hs3 := s3_take (L := seg l s n) (i := i) (x := (nm, fr, ((p, q), p', q'), (dp, dq), md, gd)) (by omega)
        have hli := (List.getElem?_eq_some_iff.1 (seg_get ha).1).1
        (repeat' ((try (conv => whnf)); first | (with_reducible first | refine And.intro ?_ ?_ | refine WX.of ?_) | exact zc | ((with_reducible refine VC.mk ?_); exact zw) | with_reducible refine atL_i ha ?_ | ((with_reducible refine VC.mk ?_); exact ⟨by omega, by omega, hli, hst⟩) | (with_reducible first | refine splitT ?_ | refine splitF ?_) | ((with_reducible refine splitM.mk (fun hsm => ?_) (fun hsm => ?_)) <;> (try exact zx)) | ((with_reducible refine splitB.mk (fun h => ?_) (fun h => ?_)) <;> (try simp only [zs, ne_eq] at h) <;> (try simp (disch := omega) only [w64] at h) <;> (try exact zx)) | (with_reducible intro hz; (try exact absurd hz (Nat.succ_ne_zero _)))))
        · exact ⟨congrArg SV.bool (by rw [ch_no ha (st_1 (by unfold s1B; dsimp only; rw [h, Bool.false_and]))])⟩
        · rw [Int.toNat_natCast, hse, hsg, hs3, Bool.and_eq_false_iff] at h
          exact ⟨congrArg SV.bool (by rw [ch_no ha (by rcases h with h | h; exact st_2 h; exact st_3 h)])⟩
        · rename_i hw
          rw [Int.toNat_natCast, hse, hsg, hs3] at h
          have h23 := h
          (repeat' ((try (conv => whnf)); first | (with_reducible first | refine And.intro ?_ ?_ | refine WX.of ?_) | exact zc | ((with_reducible refine VC.mk ?_); exact zw) | (with_reducible first | refine splitT ?_ | refine splitF ?_) | ((with_reducible refine splitM.mk (fun hsm => ?_) (fun hsm => ?_)) <;> (try exact zx)) | ((with_reducible refine splitB.mk (fun h => ?_) (fun h => ?_)) <;> (try simp only [zs, ne_eq] at h) <;> (try simp (disch := omega) only [w64] at h) <;> (try exact zx)) | (with_reducible intro hz; (try exact absurd hz (Nat.succ_ne_zero _)))))
          refine loopW tabOk (E := [(196, s_word), (250, s_l05Std)]) ⟨ok_l05Name, ok_l05Standard, trivial⟩ [] (σ := Nat) (fun j => [(0, .sl 0 s n x), (3, .int .i64 i), (4, .int .i64 j)]) (fun j => [.arr (.prod .str (.prod (.int .i64) (.prod (.prod (.prod (.int .i64) (.int .i64)) (.prod (.int .i64) (.int .i64))) (.prod (.prod (.int .i64) (.int .i64)) (.prod (.int .i64) (.int .i64)))))) l 10 wr]) (fun j => i - j) (fun j => j ≤ i ∧ ∀ (k : Nat) (a : StT), k < j → (seg l s n)[k]? = some a → decide (a.1 = nm) = false) 0 ⟨Nat.zero_le _, fun j a hj => by omega⟩ ?_ ?_
          · (repeat' ((try (conv => whnf)); first | (with_reducible first | refine And.intro ?_ ?_ | refine WX.of ?_) | exact zc | ((with_reducible refine VC.mk ?_); exact zw) | (with_reducible first | refine splitT ?_ | refine splitF ?_) | ((with_reducible refine splitM.mk (fun hsm => ?_) (fun hsm => ?_)) <;> (try exact zx)) | ((with_reducible refine splitB.mk (fun h => ?_) (fun h => ?_)) <;> (try simp only [zs, ne_eq] at h) <;> (try simp (disch := omega) only [w64] at h) <;> (try exact zx)) | (with_reducible intro hz; (try exact absurd hz (Nat.succ_ne_zero _)))))
          · intro j ⟨hj, hq⟩
            by_cases hjl : j < i
            · obtain ⟨⟨nm0, fr0, ⟨⟨p0, q0⟩, p0', q0'⟩, ⟨dp0, dq0⟩, md0, gd0⟩, hb⟩ := get_some (l := seg l s n) (i := j) (by omega)
              (repeat' ((try (conv => whnf)); first | (with_reducible first | refine And.intro ?_ ?_ | refine WX.of ?_) | exact zc | ((with_reducible refine VC.mk ?_); exact zw) | with_reducible refine atL_i hb ?_ | with_reducible refine atL_i ha ?_ | (with_reducible first | refine splitT ?_ | refine splitF ?_) | ((with_reducible refine splitM.mk (fun hsm => ?_) (fun hsm => ?_)) <;> (try exact zx)) | ((with_reducible refine splitB.mk (fun h => ?_) (fun h => ?_)) <;> (try simp only [zs, ne_eq] at h) <;> (try simp (disch := omega) only [w64] at h) <;> (try exact zx)) | (with_reducible intro hz; (try exact absurd hz (Nat.succ_ne_zero _)))))
              · exact ⟨congrArg SV.bool (by rw [ch_no ha (st_1 (by unfold s1B; dsimp only; rw [any_take hb hjl (p := fun o : StT => decide (o.1 = nm)) (decide_eq_true h), Bool.not_true, Bool.and_false]))])⟩
              · refine ⟨j + 1, by omega, ⟨hjl, upto_step hb (decide_eq_false h) hq⟩, ?_⟩
                (repeat' ((try (conv => whnf)); first | (with_reducible first | refine And.intro ?_ ?_ | refine WX.of ?_) | exact zc | ((with_reducible refine VC.mk ?_); exact zw) | (with_reducible first | refine splitT ?_ | refine splitF ?_) | ((with_reducible refine splitM.mk (fun hsm => ?_) (fun hsm => ?_)) <;> (try exact zx)) | ((with_reducible refine splitB.mk (fun h => ?_) (fun h => ?_)) <;> (try simp only [zs, ne_eq] at h) <;> (try simp (disch := omega) only [w64] at h) <;> (try exact zx)) | (with_reducible intro hz; (try exact absurd hz (Nat.succ_ne_zero _)))))
            · have han : ((seg l s n).take i).any (fun o : StT => decide (o.1 = nm)) = false := any_no fun k a hk => by
                rw [List.getElem?_take] at hk
                split at hk
                · exact hq k a (by omega) hk
                · simp at hk
              have hth : stB (seg l s n) i (nm, fr, ((p, q), p', q'), (dp, dq), md, gd) = true := by
                unfold stB s1B; dsimp only; rw [hw, han, Bool.not_false, Bool.and_self, Bool.true_and]; exact h23
              (repeat' ((try (conv => whnf)); first | (with_reducible first | refine And.intro ?_ ?_ | refine WX.of ?_) | exact zc | ((with_reducible refine VC.mk ?_); exact zw) | (with_reducible first | refine splitT ?_ | refine splitF ?_) | ((with_reducible refine splitM.mk (fun hsm => ?_) (fun hsm => ?_)) <;> (try exact zx)) | ((with_reducible refine splitB.mk (fun h => ?_) (fun h => ?_)) <;> (try simp only [zs, ne_eq] at h) <;> (try simp (disch := omega) only [w64] at h) <;> (try exact zx)) | (with_reducible intro hz; (try exact absurd hz (Nat.succ_ne_zero _)))))
              refine ⟨i + 1, by omega, ⟨hlt, upto_step2 ha hth hp⟩, ?_⟩
              (repeat' ((try (conv => whnf)); first | (with_reducible first | refine And.intro ?_ ?_ | refine WX.of ?_) | exact zc | ((with_reducible refine VC.mk ?_); exact zw) | (with_reducible first | refine splitT ?_ | refine splitF ?_) | ((with_reducible refine splitM.mk (fun hsm => ?_) (fun hsm => ?_)) <;> (try exact zx)) | ((with_reducible refine splitB.mk (fun h => ?_) (fun h => ?_)) <;> (try simp only [zs, ne_eq] at h) <;> (try simp (disch := omega) only [w64] at h) <;> (try exact zx)) | (with_reducible intro hz; (try exact absurd hz (Nat.succ_ne_zero _)))))
      · obtain rfl : i = n := by omega
        have hbn := ch_yes (L := seg l s i) fun k a ha => hp k a (by have := (List.getElem?_eq_some_iff.1 ha).1; omega) ha
        (repeat' ((try (conv => whnf)); first | (with_reducible first | refine And.intro ?_ ?_ | refine WX.of ?_) | exact zc | ((with_reducible refine VC.mk ?_); exact zw) | (with_reducible first | refine splitT ?_ | refine splitF ?_) | ((with_reducible refine splitM.mk (fun hsm => ?_) (fun hsm => ?_)) <;> (try exact zx)) | ((with_reducible refine splitB.mk (fun h => ?_) (fun h => ?_)) <;> (try simp only [zs, ne_eq] at h) <;> (try simp (disch := omega) only [w64] at h) <;> (try exact zx)) | (with_reducible intro hz; (try exact absurd hz (Nat.succ_ne_zero _)))))
        exact ⟨congrArg SV.bool (by rw [hbn, hL, show decide (i ≤ 30) = true from decide_eq_true (by omega)])⟩
set_option maxHeartbeats 1600000 in
theorem ok_ValidChainI : SpecOk Tryz.prog 57 s_l05Ok := by
  intro args S h; unfold s_l05Ok at h ⊢; (split at h <;> first | exact False.elim h | skip)
  dsimp only at h ⊢
  rename_i s n x l wr
  obtain ⟨⟨h1, h2⟩, ho⟩ := h
  have hL := seg_len h1
  refine funW tabOk (E := [(92, s_word), (157, (s_anyCh 158)), (106, s_within), (64, s_vSpan), (96, s_fOk), (159, s_good)]) ⟨ok_isWord, ok_anyCh, ok_within, ok_ValidSpan, ok_ValidFrac, ok_good, trivial⟩ [] (k := 1) (fn := Tryz.f57) rfl rfl rfl rfl rfl rfl ?_
  (repeat' ((try (conv => whnf)); first | (with_reducible first | refine And.intro ?_ ?_ | refine WX.of ?_) | exact zc | ((with_reducible refine VC.mk ?_); exact zw) | (with_reducible first | refine splitT ?_ | refine splitF ?_) | ((with_reducible refine splitM.mk (fun hsm => ?_) (fun hsm => ?_)) <;> (try exact zx)) | ((with_reducible refine splitB.mk (fun h => ?_) (fun h => ?_)) <;> (try simp only [zs, ne_eq] at h) <;> (try simp (disch := omega) only [w64] at h) <;> (try exact zx)) | (with_reducible intro hz; (try exact absurd hz (Nat.succ_ne_zero _)))))
  refine loopW tabOk (E := [(92, s_word), (157, (s_anyCh 158)), (106, s_within), (64, s_vSpan), (96, s_fOk), (159, s_good)]) ⟨ok_isWord, ok_anyCh, ok_within, ok_ValidSpan, ok_ValidFrac, ok_good, trivial⟩ [] (σ := Nat) (fun i => [(0, .sl 0 s n x), (5, .sl 0 s n x), (6, .int .i64 n), (7, .int .i64 i)]) (fun i => [.arr (.prod .str (.prod (.int .i64) (.prod (.prod (.prod (.int .i64) (.int .i64)) (.prod (.int .i64) (.int .i64))) (.prod (.prod (.int .i64) (.int .i64)) (.prod (.int .i64) (.int .i64)))))) l 10 wr]) (fun i => n - i) (fun i => i ≤ n ∧ ∀ (j : Nat) (a : StT), j < i → (seg l s n)[j]? = some a → stB (seg l s n) j a = true) 0 ⟨Nat.zero_le _, fun j a hj => by omega⟩ ?_ ?_
  · (repeat' ((try (conv => whnf)); first | (with_reducible first | refine And.intro ?_ ?_ | refine WX.of ?_) | exact zc | ((with_reducible refine VC.mk ?_); exact zw) | (with_reducible first | refine splitT ?_ | refine splitF ?_) | ((with_reducible refine splitM.mk (fun hsm => ?_) (fun hsm => ?_)) <;> (try exact zx)) | ((with_reducible refine splitB.mk (fun h => ?_) (fun h => ?_)) <;> (try simp only [zs, ne_eq] at h) <;> (try simp (disch := omega) only [w64] at h) <;> (try exact zx)) | (with_reducible intro hz; (try exact absurd hz (Nat.succ_ne_zero _)))))
  · intro i ⟨hi, hp⟩
    by_cases hlt : i < n
    · obtain ⟨⟨nm, fr, ⟨⟨p, q⟩, p', q'⟩, ⟨dp, dq⟩, md, gd⟩, ha⟩ := get_some (l := seg l s n) (i := i) (by omega)
      have hno := ho _ _ (seg_get ha).1
      dsimp only at hno
      have hsg := seg_take (l := l) (s := s) (m := n) (i := i) (by omega)
      rcases in_em fr i with hin | hin
      · obtain ⟨⟨nm0, fr0, ⟨⟨p0, q0⟩, p0', q0'⟩, ⟨dp0, dq0⟩, md0, gd0⟩, hy⟩ := get_some (l := seg l s n) (i := fr.toNat) (by omega)
        have hyp := hp _ _ (by omega) hy
        have hyb := s2_of (show s2B _ = true from by unfold stB at hyp; simp only [Bool.and_eq_true] at hyp; exact hyp.1.2)
        have hay : stAt (seg l s n) fr = (nm0, fr0, ((p0, q0), p0', q0'), (dp0, dq0), md0, gd0) := stAt_z hy
        (repeat' ((try (conv => whnf)); first | (with_reducible first | refine And.intro ?_ ?_ | refine WX.of ?_) | exact zc | ((with_reducible refine VC.mk ?_); exact zw) | with_reducible refine atL_i ha ?_ | with_reducible refine atL_p (seg_get hy).1 ?_ | ((with_reducible refine VC.mk ?_); exact hno) | ((with_reducible refine VC.mk ?_); exact hyb) | (with_reducible first | refine splitT ?_ | refine splitF ?_) | ((with_reducible refine splitM.mk (fun hsm => ?_) (fun hsm => ?_)) <;> (try exact zx)) | ((with_reducible refine splitB.mk (fun h => ?_) (fun h => ?_)) <;> (try simp only [zs, ne_eq] at h) <;> (try simp (disch := omega) only [w64] at h) <;> (try exact zx)) | (with_reducible intro hz; (try exact absurd hz (Nat.succ_ne_zero _)))))
        all_goals first
          | exact ⟨⟨rfl, ⟨by omega, by omega⟩, trivial⟩⟩
          | (refine ⟨congrArg SV.bool ?_⟩; rw [ch_no ha]; unfold stB s1B s2B s3B spB dyB; dsimp only; first | (rw [Int.toNat_natCast, hsg] at h; simp [h]; done) | (simp [h]; done) | (rw [hay]; simp [h]; done) | (rw [hay]; simp [h]; intros; omega) | (rw [decide_eq_false h]; simp; done) | (simp [Int.not_le.2 h]; done) | (rw [decide_eq_false (Int.not_le.2 h)]; simp; done))
          | skip
        rename_i _ hw han hfr hsp hdf hdp hmd hgd h0
        rw [Int.toNat_natCast, hsg] at han
        have hth : stB (seg l s n) i (nm, fr, ((p, q), p', q'), (dp, dq), md, gd) = true := by
          unfold stB s1B s2B s3B spB dyB; dsimp only; rw [hay, hw, han, hsp, hdf, h, decide_eq_true hfr, decide_eq_true hdp, decide_eq_true hmd, decide_eq_true hgd]; simp
        refine ⟨i + 1, by omega, ⟨hlt, upto_step2 ha hth hp⟩, ?_⟩
        (repeat' ((try (conv => whnf)); first | (with_reducible first | refine And.intro ?_ ?_ | refine WX.of ?_) | exact zc | ((with_reducible refine VC.mk ?_); exact zw) | (with_reducible first | refine splitT ?_ | refine splitF ?_) | ((with_reducible refine splitM.mk (fun hsm => ?_) (fun hsm => ?_)) <;> (try exact zx)) | ((with_reducible refine splitB.mk (fun h => ?_) (fun h => ?_)) <;> (try simp only [zs, ne_eq] at h) <;> (try simp (disch := omega) only [w64] at h) <;> (try exact zx)) | (with_reducible intro hz; (try exact absurd hz (Nat.succ_ne_zero _)))))
      · (repeat' ((try (conv => whnf)); first | (with_reducible first | refine And.intro ?_ ?_ | refine WX.of ?_) | exact zc | ((with_reducible refine VC.mk ?_); exact zw) | with_reducible refine atL_i ha ?_ | ((with_reducible refine VC.mk ?_); exact hno) | (with_reducible first | refine splitT ?_ | refine splitF ?_) | ((with_reducible refine splitM.mk (fun hsm => ?_) (fun hsm => ?_)) <;> (try exact zx)) | ((with_reducible refine splitB.mk (fun h => ?_) (fun h => ?_)) <;> (try simp only [zs, ne_eq] at h) <;> (try simp (disch := omega) only [w64] at h) <;> (try exact zx)) | (with_reducible intro hz; (try exact absurd hz (Nat.succ_ne_zero _)))))
        all_goals first
          | exact ⟨⟨rfl, ⟨by omega, by omega⟩, trivial⟩⟩
          | (refine ⟨congrArg SV.bool ?_⟩; rw [ch_no ha]; unfold stB s1B s2B s3B spB dyB; dsimp only; first | (rw [Int.toNat_natCast, hsg] at h; simp [h]; done) | (simp [h]; done) | (rw [decide_eq_false h]; simp; done) | (simp [Int.not_le.2 h]; done) | (rw [decide_eq_false (Int.not_le.2 h)]; simp; done))
          | skip
        rename_i _ hw han hfr hsp hdf hdp hmd hgd
        rw [Int.toNat_natCast, hsg] at han
        have hth : stB (seg l s n) i (nm, fr, ((p, q), p', q'), (dp, dq), md, gd) = true := by
          unfold stB s1B s2B s3B spB dyB; dsimp only; rw [hw, han, hsp, hdf, decide_eq_true hfr, decide_eq_true hdp, decide_eq_true hmd, decide_eq_true hgd, decide_eq_true h]; simp
        refine ⟨i + 1, by omega, ⟨hlt, upto_step2 ha hth hp⟩, ?_⟩
        (repeat' ((try (conv => whnf)); first | (with_reducible first | refine And.intro ?_ ?_ | refine WX.of ?_) | exact zc | ((with_reducible refine VC.mk ?_); exact zw) | (with_reducible first | refine splitT ?_ | refine splitF ?_) | ((with_reducible refine splitM.mk (fun hsm => ?_) (fun hsm => ?_)) <;> (try exact zx)) | ((with_reducible refine splitB.mk (fun h => ?_) (fun h => ?_)) <;> (try simp only [zs, ne_eq] at h) <;> (try simp (disch := omega) only [w64] at h) <;> (try exact zx)) | (with_reducible intro hz; (try exact absurd hz (Nat.succ_ne_zero _)))))
    · obtain rfl : i = n := by omega
      have hbn := ch_yes (L := seg l s i) fun k a ha => hp k a (by have := (List.getElem?_eq_some_iff.1 ha).1; omega) ha
      (repeat' ((try (conv => whnf)); first | (with_reducible first | refine And.intro ?_ ?_ | refine WX.of ?_) | exact zc | ((with_reducible refine VC.mk ?_); exact zw) | (with_reducible first | refine splitT ?_ | refine splitF ?_) | ((with_reducible refine splitM.mk (fun hsm => ?_) (fun hsm => ?_)) <;> (try exact zx)) | ((with_reducible refine splitB.mk (fun h => ?_) (fun h => ?_)) <;> (try simp only [zs, ne_eq] at h) <;> (try simp (disch := omega) only [w64] at h) <;> (try exact zx)) | (with_reducible intro hz; (try exact absurd hz (Nat.succ_ne_zero _)))))
      exact ⟨congrArg SV.bool (by rw [hbn, hL, decide_eq_decide]; omega)⟩
end Go.Proofs.YtamachahlhlhlaaGreatDoor.Eng
set_option linter.unusedVariables false
set_option linter.unusedSimpArgs false
namespace Go.Proofs.YtamachahlhlhlaaGreatDoor.Eng
open Go Go.RowKit
set_option maxRecDepth 100000
def s_eqSpanC : Spec := fun args S => match args, S with
  | [.agg [.int .i64 p, .int .i64 q, .int .i64 p', .int .i64 q'], .agg [.int .i64 r, .int .i64 s, .int .i64 r', .int .i64 s']], [] => ⟨True, .bool ((decide (p = r) && decide (q = s)) && (decide (p' = r') && decide (q' = s'))), []⟩
  | _, _ => noSpec
theorem ok_eqSpanC : SpecOk Tryz.prog 254 s_eqSpanC := by
  intro args S h; unfold s_eqSpanC at h ⊢; (split at h <;> first | exact False.elim h | skip)
  dsimp only at h ⊢
  refine funW tabOk (E := [(181, s_eqFrac)]) ⟨ok_eqFrac, trivial⟩ [] (k := 0) (fn := Tryz.f254) rfl rfl rfl rfl rfl rfl ?_
  (repeat' ((try (conv => whnf)); first | (with_reducible first | refine And.intro ?_ ?_ | refine WX.of ?_) | exact zc | ((with_reducible refine VC.mk ?_); exact zw) | (with_reducible first | refine splitT ?_ | refine splitF ?_) | ((with_reducible refine splitM.mk (fun hsm => ?_) (fun hsm => ?_)) <;> (try exact zx)) | ((with_reducible refine splitB.mk (fun h => ?_) (fun h => ?_)) <;> (try simp only [zs, ne_eq] at h) <;> (try simp (disch := omega) only [w64] at h) <;> (try exact zx)) | (with_reducible intro hz; (try exact absurd hz (Nat.succ_ne_zero _)))))
  all_goals (refine ⟨?_⟩; simp_all)
def s_eqStandard : Spec := fun args S => match args, S with
  | [.agg [.str nm, .int .i64 fr, .int .i64 p, .int .i64 q, .int .i64 p', .int .i64 q', .int .i64 dp, .int .i64 dq, .int .i64 md, .int .i64 gd], .agg [.str nm0, .int .i64 fr0, .int .i64 p0, .int .i64 q0, .int .i64 p0', .int .i64 q0', .int .i64 dp0, .int .i64 dq0, .int .i64 md0, .int .i64 gd0]], [] => ⟨True, .bool (decide ((nm, fr, ((p, q), p', q'), (dp, dq), md, gd) = (nm0, fr0, ((p0, q0), p0', q0'), (dp0, dq0), md0, gd0))), []⟩
  | _, _ => noSpec
theorem ok_eqStandard : SpecOk Tryz.prog 174 s_eqStandard := by
  intro args S h; unfold s_eqStandard at h ⊢; (split at h <;> first | exact False.elim h | skip)
  dsimp only at h ⊢
  refine funW tabOk (E := [(181, s_eqFrac), (254, s_eqSpanC)]) ⟨ok_eqFrac, ok_eqSpanC, trivial⟩ [] (k := 0) (fn := Tryz.f174) rfl rfl rfl rfl rfl rfl ?_
  (repeat' ((try (conv => whnf)); first | (with_reducible first | refine And.intro ?_ ?_ | refine WX.of ?_) | exact zc | ((with_reducible refine VC.mk ?_); exact zw) | (with_reducible first | refine splitT ?_ | refine splitF ?_) | ((with_reducible refine splitM.mk (fun hsm => ?_) (fun hsm => ?_)) <;> (try exact zx)) | ((with_reducible refine splitB.mk (fun h => ?_) (fun h => ?_)) <;> (try simp only [zs, ne_eq] at h) <;> (try simp (disch := omega) only [w64] at h) <;> (try exact zx)) | (with_reducible intro hz; (try exact absurd hz (Nat.succ_ne_zero _)))))
  all_goals (refine ⟨?_⟩; simp_all)
instance instF2 : DecidableEq ((Int × Int) × Int × Int) := inferInstance
instance instStT : DecidableEq (ET.T (.prod .str (.prod (.int .i64) (.prod (.prod (.prod (.int .i64) (.int .i64)) (.prod (.int .i64) (.int .i64))) (.prod (.prod (.int .i64) (.int .i64)) (.prod (.int .i64) (.int .i64))))))) := inferInstanceAs (DecidableEq (List UInt8 × Int × ((Int × Int) × Int × Int) × (Int × Int) × Int × Int))
def s_eqStandardS : Spec := fun args S => match args, S with
  | [.sl 0 s n x, .sl 1 s' n' x'], [.arr (.prod .str (.prod (.int .i64) (.prod (.prod (.prod (.int .i64) (.int .i64)) (.prod (.int .i64) (.int .i64))) (.prod (.prod (.int .i64) (.int .i64)) (.prod (.int .i64) (.int .i64)))))) l 10 wr, .arr (.prod .str (.prod (.int .i64) (.prod (.prod (.prod (.int .i64) (.int .i64)) (.prod (.int .i64) (.int .i64))) (.prod (.prod (.int .i64) (.int .i64)) (.prod (.int .i64) (.int .i64)))))) l' 10 wr'] => ⟨s + n ≤ l.length ∧ s' + n' ≤ l'.length ∧ n ≤ 4611686018427387904, .bool (decide (seg l s n = seg l' s' n')), [.arr (.prod .str (.prod (.int .i64) (.prod (.prod (.prod (.int .i64) (.int .i64)) (.prod (.int .i64) (.int .i64))) (.prod (.prod (.int .i64) (.int .i64)) (.prod (.int .i64) (.int .i64)))))) l 10 wr, .arr (.prod .str (.prod (.int .i64) (.prod (.prod (.prod (.int .i64) (.int .i64)) (.prod (.int .i64) (.int .i64))) (.prod (.prod (.int .i64) (.int .i64)) (.prod (.int .i64) (.int .i64)))))) l' 10 wr']⟩
  | [.nils, .sl 0 s' n' x'], [.arr (.prod .str (.prod (.int .i64) (.prod (.prod (.prod (.int .i64) (.int .i64)) (.prod (.int .i64) (.int .i64))) (.prod (.prod (.int .i64) (.int .i64)) (.prod (.int .i64) (.int .i64)))))) l' 10 wr'] => ⟨s' + n' ≤ l'.length ∧ n' = 0, .bool true, [.arr (.prod .str (.prod (.int .i64) (.prod (.prod (.prod (.int .i64) (.int .i64)) (.prod (.int .i64) (.int .i64))) (.prod (.prod (.int .i64) (.int .i64)) (.prod (.int .i64) (.int .i64)))))) l' 10 wr']⟩
  | _, _ => noSpec
theorem eqStandardS_nil {s x : Nat} {l : List (ET.T (.prod .str (.prod (.int .i64) (.prod (.prod (.prod (.int .i64) (.int .i64)) (.prod (.int .i64) (.int .i64))) (.prod (.prod (.int .i64) (.int .i64)) (.prod (.int .i64) (.int .i64)))))))} {wr : Bool} : RunsS Tryz.prog 69 [.nils, .sl 0 s 0 x] [.arr (.prod .str (.prod (.int .i64) (.prod (.prod (.prod (.int .i64) (.int .i64)) (.prod (.int .i64) (.int .i64))) (.prod (.prod (.int .i64) (.int .i64)) (.prod (.int .i64) (.int .i64)))))) l 10 wr] (.bool true) [.arr (.prod .str (.prod (.int .i64) (.prod (.prod (.prod (.int .i64) (.int .i64)) (.prod (.int .i64) (.int .i64))) (.prod (.prod (.int .i64) (.int .i64)) (.prod (.int .i64) (.int .i64)))))) l 10 wr] := by
  refine funW tabOk (E := [(174, s_eqStandard)]) ⟨ok_eqStandard, trivial⟩ [] (k := 1) (fn := Tryz.f69) rfl rfl rfl rfl rfl rfl ?_
  (repeat' ((try (conv => whnf)); first | (with_reducible first | refine And.intro ?_ ?_ | refine WX.of ?_) | exact zc | ((with_reducible refine VC.mk ?_); exact zw) | (with_reducible first | refine splitT ?_ | refine splitF ?_) | ((with_reducible refine splitM.mk (fun hsm => ?_) (fun hsm => ?_)) <;> (try exact zx)) | ((with_reducible refine splitB.mk (fun h => ?_) (fun h => ?_)) <;> (try simp only [zs, ne_eq] at h) <;> (try simp (disch := omega) only [w64] at h) <;> (try exact zx)) | (with_reducible intro hz; (try exact absurd hz (Nat.succ_ne_zero _)))))
  refine loop1 tabOk (E := [(174, s_eqStandard)]) ⟨ok_eqStandard, trivial⟩ [] ?_
  (repeat' ((try (conv => whnf)); first | (with_reducible first | refine And.intro ?_ ?_ | refine WX.of ?_) | exact zc | ((with_reducible refine VC.mk ?_); exact zw) | (with_reducible first | refine splitT ?_ | refine splitF ?_) | ((with_reducible refine splitM.mk (fun hsm => ?_) (fun hsm => ?_)) <;> (try exact zx)) | ((with_reducible refine splitB.mk (fun h => ?_) (fun h => ?_)) <;> (try simp only [zs, ne_eq] at h) <;> (try simp (disch := omega) only [w64] at h) <;> (try exact zx)) | (with_reducible intro hz; (try exact absurd hz (Nat.succ_ne_zero _)))))
theorem ok_eqStandardS : SpecOk Tryz.prog 69 s_eqStandardS := by
  intro args S h; unfold s_eqStandardS at h ⊢; (split at h <;> first | exact False.elim h | skip)
  dsimp only at h ⊢
  rotate_left 1
  · obtain ⟨h1, rfl⟩ := h
    exact eqStandardS_nil
  rename_i s n x s' n' x' l wr l' wr'
  have hL := seg_len h.1
  have hM := seg_len h.2.1
  refine funW tabOk (E := [(174, s_eqStandard)]) ⟨ok_eqStandard, trivial⟩ [] (k := 2) (fn := Tryz.f69) rfl rfl rfl rfl rfl rfl ?_
  (repeat' ((try (conv => whnf)); first | (with_reducible first | refine And.intro ?_ ?_ | refine WX.of ?_) | exact zc | ((with_reducible refine VC.mk ?_); exact zw) | (with_reducible first | refine splitT ?_ | refine splitF ?_) | ((with_reducible refine splitM.mk (fun hsm => ?_) (fun hsm => ?_)) <;> (try exact zx)) | ((with_reducible refine splitB.mk (fun h => ?_) (fun h => ?_)) <;> (try simp only [zs, ne_eq] at h) <;> (try simp (disch := omega) only [w64] at h) <;> (try exact zx)) | (with_reducible intro hz; (try exact absurd hz (Nat.succ_ne_zero _)))))
  · refine ⟨?_⟩
    rw [decide_eq_false]; intro e
    rw [e] at hL; omega
  · obtain rfl : n = n' := by omega
    refine loopW tabOk (E := [(174, s_eqStandard)]) ⟨ok_eqStandard, trivial⟩ [] (σ := Nat) (fun i => [(0, .sl 0 s n x), (1, .sl 1 s' n x'), (5, .int .i64 i)]) (fun i => [.arr (.prod .str (.prod (.int .i64) (.prod (.prod (.prod (.int .i64) (.int .i64)) (.prod (.int .i64) (.int .i64))) (.prod (.prod (.int .i64) (.int .i64)) (.prod (.int .i64) (.int .i64)))))) l 10 wr, .arr (.prod .str (.prod (.int .i64) (.prod (.prod (.prod (.int .i64) (.int .i64)) (.prod (.int .i64) (.int .i64))) (.prod (.prod (.int .i64) (.int .i64)) (.prod (.int .i64) (.int .i64)))))) l' 10 wr']) (fun i => n - i) (fun i => i ≤ n ∧ (seg l s n).take i = (seg l' s' n).take i) 0 ⟨Nat.zero_le _, by simp⟩ ?_ ?_
    · (repeat' ((try (conv => whnf)); first | (with_reducible first | refine And.intro ?_ ?_ | refine WX.of ?_) | exact zc | ((with_reducible refine VC.mk ?_); exact zw) | (with_reducible first | refine splitT ?_ | refine splitF ?_) | ((with_reducible refine splitM.mk (fun hsm => ?_) (fun hsm => ?_)) <;> (try exact zx)) | ((with_reducible refine splitB.mk (fun h => ?_) (fun h => ?_)) <;> (try simp only [zs, ne_eq] at h) <;> (try simp (disch := omega) only [w64] at h) <;> (try exact zx)) | (with_reducible intro hz; (try exact absurd hz (Nat.succ_ne_zero _)))))
    · intro i ⟨hi, hp⟩
      by_cases hlt : i < n
      · obtain ⟨⟨nm, fr, ⟨⟨p, q⟩, p', q'⟩, ⟨dp, dq⟩, md, gd⟩, ha⟩ := get_some (l := seg l s n) (i := i) (by omega)
        obtain ⟨⟨nm0, fr0, ⟨⟨p0, q0⟩, p0', q0'⟩, ⟨dp0, dq0⟩, md0, gd0⟩, hb⟩ := get_some (l := seg l' s' n) (i := i) (by omega)
        (repeat' ((try (conv => whnf)); first | (with_reducible first | refine And.intro ?_ ?_ | refine WX.of ?_) | exact zc | ((with_reducible refine VC.mk ?_); exact zw) | refine atL_i ha ?_ | refine atL_i hb ?_ | (with_reducible first | refine splitT ?_ | refine splitF ?_) | ((with_reducible refine splitM.mk (fun hsm => ?_) (fun hsm => ?_)) <;> (try exact zx)) | ((with_reducible refine splitB.mk (fun h => ?_) (fun h => ?_)) <;> (try simp only [zs, ne_eq] at h) <;> (try simp (disch := omega) only [w64] at h) <;> (try exact zx)) | (with_reducible intro hz; (try exact absurd hz (Nat.succ_ne_zero _)))))
        · refine ⟨?_⟩; rw [decide_eq_false]; exact same_not ha hb (by simpa using h)
        · refine ⟨i + 1, by omega, ⟨hlt, same_step ha hb hp (by simpa using h)⟩, ?_⟩
          (repeat' ((try (conv => whnf)); first | (with_reducible first | refine And.intro ?_ ?_ | refine WX.of ?_) | exact zc | ((with_reducible refine VC.mk ?_); exact zw) | (with_reducible first | refine splitT ?_ | refine splitF ?_) | ((with_reducible refine splitM.mk (fun hsm => ?_) (fun hsm => ?_)) <;> (try exact zx)) | ((with_reducible refine splitB.mk (fun h => ?_) (fun h => ?_)) <;> (try simp only [zs, ne_eq] at h) <;> (try simp (disch := omega) only [w64] at h) <;> (try exact zx)) | (with_reducible intro hz; (try exact absurd hz (Nat.succ_ne_zero _)))))
      · (repeat' ((try (conv => whnf)); first | (with_reducible first | refine And.intro ?_ ?_ | refine WX.of ?_) | exact zc | ((with_reducible refine VC.mk ?_); exact zw) | (with_reducible first | refine splitT ?_ | refine splitF ?_) | ((with_reducible refine splitM.mk (fun hsm => ?_) (fun hsm => ?_)) <;> (try exact zx)) | ((with_reducible refine splitB.mk (fun h => ?_) (fun h => ?_)) <;> (try simp only [zs, ne_eq] at h) <;> (try simp (disch := omega) only [w64] at h) <;> (try exact zx)) | (with_reducible intro hz; (try exact absurd hz (Nat.succ_ne_zero _)))))
        obtain rfl : i = n := by omega
        refine ⟨?_⟩; rw [decide_eq_true]; exact same_end hL hM hp
end Go.Proofs.YtamachahlhlhlaaGreatDoor.Eng
set_option linter.unusedVariables false
set_option linter.unusedSimpArgs false
namespace Go.Proofs.YtamachahlhlhlaaGreatDoor.Eng
open Go Go.RowKit
set_option maxRecDepth 100000
/-- A standard's line; a chain's lines. -/
def frmT (L : List StT) (a : StT) : List UInt8 := if 0 ≤ a.2.1 then (stAt L a.2.1).1 else [45]
def stTx (L : List StT) (a : StT) : List UInt8 := ((((((((((a.1 ++ [32]) ++ frmT L a) ++ [32]) ++ spT a.2.2.1.1.1 a.2.2.1.1.2 a.2.2.1.2.1 a.2.2.1.2.2) ++ [32]) ++ frT a.2.2.2.1.1 a.2.2.2.1.2) ++ [32]) ++ dcl a.2.2.2.2.1) ++ [32]) ++ dcl a.2.2.2.2.2) ++ [10]
def chT (L M : List StT) : List UInt8 := M.flatMap (stTx L)
theorem frm_len {L : List StT} (h : chB L = true) {i : Nat} {a : StT} (ha : L[i]? = some a) : (frmT L a).length ≤ 12 := by
  have hi := (List.getElem?_eq_some_iff.1 ha).1
  have hf := (ch_ok h ha).fr
  unfold frmT
  split
  · obtain ⟨b, hb, e, ok⟩ := ch_z h (i := a.2.1) (by omega)
    rw [e]
    exact wd12 ok.nm
  · simp
theorem stTx_len {L : List StT} (h : chB L = true) {i : Nat} {a : StT} (ha : L[i]? = some a) : (stTx L a).length ≤ 200 := by
  have h1 := wd12 (ch_ok h ha).nm
  have h2 := frm_len h ha
  have h3 := spT_len a.2.2.1.1.1 a.2.2.1.1.2 a.2.2.1.2.1 a.2.2.1.2.2
  have h4 := frT_len a.2.2.2.1.1 a.2.2.2.1.2
  have h5 := decT_19 a.2.2.2.2.1
  have h6 := decT_19 a.2.2.2.2.2
  unfold stTx
  simp only [List.length_append, List.length_cons, List.length_nil]
  omega
theorem chT_s {L : List StT} {i : Nat} {a : StT} (h : L[i]? = some a) : chT L (L.take (i + 1)) = chT L (L.take i) ++ stTx L a := by
  obtain ⟨hi, rfl⟩ := List.getElem?_eq_some_iff.1 h
  unfold chT
  rw [List.take_succ_eq_append_getElem hi, List.flatMap_append]
  simp
theorem chT_len {L : List StT} (h : chB L = true) : ∀ i, i ≤ L.length → (chT L (L.take i)).length ≤ 200 * i
  | 0, _ => by simp [chT]
  | i + 1, hi => by
    obtain ⟨a, ha⟩ := get_some (l := L) (i := i) (by omega)
    rw [chT_s ha, List.length_append]
    have := stTx_len h ha
    have := chT_len h i (by omega)
    omega
def s_spTV : Spec := fun args S => match args, S with
  | [.ptr 0 i 2], [.arr (.prod .str (.prod (.int .i64) (.prod (.prod (.prod (.int .i64) (.int .i64)) (.prod (.int .i64) (.int .i64))) (.prod (.prod (.int .i64) (.int .i64)) (.prod (.int .i64) (.int .i64)))))) l 10 wr] => ⟨i < l.length ∧ smF ((l[i]?).getD stD).2.2.1.1.1 ((l[i]?).getD stD).2.2.1.1.2 ∧ smF ((l[i]?).getD stD).2.2.1.2.1 ((l[i]?).getD stD).2.2.1.2.2, .str (spT ((l[i]?).getD stD).2.2.1.1.1 ((l[i]?).getD stD).2.2.1.1.2 ((l[i]?).getD stD).2.2.1.2.1 ((l[i]?).getD stD).2.2.1.2.2), [.arr (.prod .str (.prod (.int .i64) (.prod (.prod (.prod (.int .i64) (.int .i64)) (.prod (.int .i64) (.int .i64))) (.prod (.prod (.int .i64) (.int .i64)) (.prod (.int .i64) (.int .i64)))))) l 10 wr]⟩
  | _, _ => noSpec
theorem ok_l01SpanTextV : SpecOk Tryz.prog 251 s_spTV := by
  intro args S h; unfold s_spTV at h ⊢; (split at h <;> first | exact False.elim h | skip)
  dsimp only at h ⊢
  rename_i i l wr
  obtain ⟨h, h2, h3⟩ := h
  obtain ⟨⟨nm, fr, ⟨⟨p, q⟩, p', q'⟩, ⟨dp, dq⟩, md, gd⟩, ha⟩ := get_some h
  rw [show (l[i]?).getD stD = (nm, fr, ((p, q), p', q'), (dp, dq), md, gd) from by rw [ha]; rfl] at h2 h3 ⊢
  have l1 := frT_len p q
  have l2 := frT_len p' q'
  refine funW tabOk (E := [(252, s_frT)]) ⟨ok_l01Text, trivial⟩ [(1, [(9, 0)])] (k := 1) (fn := Tryz.f251) rfl rfl rfl rfl rfl rfl ?_
  (repeat' ((try (conv => whnf)); first | (with_reducible first | refine And.intro ?_ ?_ | refine WX.of ?_) | exact zc | ((with_reducible refine VC.mk ?_); exact zw) | with_reducible refine atL_p ha ?_ | ((with_reducible refine VC.mk ?_); exact h2) | ((with_reducible refine VC.mk ?_); exact h3) | (with_reducible first | refine splitT ?_ | refine splitF ?_) | ((with_reducible refine splitM.mk (fun hsm => ?_) (fun hsm => ?_)) <;> (try exact zx)) | ((with_reducible refine splitB.mk (fun h => ?_) (fun h => ?_)) <;> (try simp only [zs, ne_eq] at h) <;> (try simp (disch := omega) only [w64] at h) <;> (try exact zx)) | (with_reducible intro hz; (try exact absurd hz (Nat.succ_ne_zero _)))))
  all_goals (refine ⟨?_⟩; simp; omega)
theorem fr_em (a : Int) : 0 ≤ a ∨ ¬ 0 ≤ a := Decidable.em _
theorem fr_b {L : List StT} {a : StT} {i n : Nat} (h : StOk L i a) (hi : i < n) (h0 : 0 ≤ a.2.1) : 0 ≤ a.2.1 ∧ a.2.1 < (n : Int) := ⟨h0, by have := h.fr; omega⟩
theorem md_b {L : List StT} {a : StT} {i : Nat} (h : StOk L i a) : 0 ≤ a.2.2.2.2.1 ∧ a.2.2.2.2.1 ≤ 9223372036854775807 := ⟨h.md.1, by have := h.md.2; omega⟩
theorem gd_b {L : List StT} {a : StT} {i : Nat} (h : StOk L i a) : 0 ≤ a.2.2.2.2.2 ∧ a.2.2.2.2.2 ≤ 9223372036854775807 := ⟨h.gd.1, by have := h.gd.2; omega⟩
theorem md_c {L : List StT} {a : StT} {i : Nat} (h : StOk L i a) : -9223372036854775807 ≤ a.2.2.2.2.1 ∧ a.2.2.2.2.1 ≤ 9223372036854775807 := ⟨by have := h.md.1; omega, by have := h.md.2; omega⟩
theorem gd_c {L : List StT} {a : StT} {i : Nat} (h : StOk L i a) : -9223372036854775807 ≤ a.2.2.2.2.2 ∧ a.2.2.2.2.2 ≤ 9223372036854775807 := ⟨by have := h.gd.1; omega, by have := h.gd.2; omega⟩
def s_l05Text : Spec := fun args S => match args, S with
  | [.sl 0 s n x], [.arr (.prod .str (.prod (.int .i64) (.prod (.prod (.prod (.int .i64) (.int .i64)) (.prod (.int .i64) (.int .i64))) (.prod (.prod (.int .i64) (.int .i64)) (.prod (.int .i64) (.int .i64)))))) l 10 wr] => ⟨(s + n ≤ l.length ∧ n ≤ 1000000) ∧ chB (seg l s n) = true, .str (chT (seg l s n) (seg l s n)), [.arr (.prod .str (.prod (.int .i64) (.prod (.prod (.prod (.int .i64) (.int .i64)) (.prod (.int .i64) (.int .i64))) (.prod (.prod (.int .i64) (.int .i64)) (.prod (.int .i64) (.int .i64)))))) l 10 wr]⟩
  | _, _ => noSpec
set_option maxHeartbeats 3200000 in
theorem ok_l05Text : SpecOk Tryz.prog 173 s_l05Text := by
  intro args S h; unfold s_l05Text at h ⊢; (split at h <;> first | exact False.elim h | skip)
  dsimp only at h ⊢
  rename_i s n x l wr
  obtain ⟨⟨h1, h2⟩, hC⟩ := h
  have hL := seg_len h1
  refine funW tabOk (E := [(251, s_spTV), (252, s_frT), (253, s_dcl)]) ⟨ok_l01SpanTextV, ok_l01Text, ok_dcl, trivial⟩ [(9, [(4, 1), (4, 2), (4, 3), (4, 4), (18, 0), (25, 0), (25, 1), (32, 0), (32, 1), (32, 2)])] (k := 1) (fn := Tryz.f173) rfl rfl rfl rfl rfl rfl ?_
  (repeat' ((try (conv => whnf)); first | (with_reducible first | refine And.intro ?_ ?_ | refine WX.of ?_) | exact zc | ((with_reducible refine VC.mk ?_); exact zw) | (with_reducible first | refine splitT ?_ | refine splitF ?_) | ((with_reducible refine splitM.mk (fun hsm => ?_) (fun hsm => ?_)) <;> (try exact zx)) | ((with_reducible refine splitB.mk (fun h => ?_) (fun h => ?_)) <;> (try simp only [zs, ne_eq] at h) <;> (try simp (disch := omega) only [w64] at h) <;> (try exact zx)) | (with_reducible intro hz; (try exact absurd hz (Nat.succ_ne_zero _)))))
  refine loopW tabOk (E := [(251, s_spTV), (252, s_frT), (253, s_dcl)]) ⟨ok_l01SpanTextV, ok_l01Text, ok_dcl, trivial⟩ [(9, [(4, 1), (4, 2), (4, 3), (4, 4), (18, 0), (25, 0), (25, 1), (32, 0), (32, 1), (32, 2)])] (σ := Nat) (fun i => [(0, .sl 0 s n x), (3, .str (chT (seg l s n) ((seg l s n).take i))), (4, .int .i64 i)]) (fun i => [.arr (.prod .str (.prod (.int .i64) (.prod (.prod (.prod (.int .i64) (.int .i64)) (.prod (.int .i64) (.int .i64))) (.prod (.prod (.int .i64) (.int .i64)) (.prod (.int .i64) (.int .i64)))))) l 10 wr]) (fun i => n - i) (fun i => i ≤ n) 0 (Nat.zero_le _) ?_ ?_
  · (repeat' ((try (conv => whnf)); first | (with_reducible first | refine And.intro ?_ ?_ | refine WX.of ?_) | exact zc | ((with_reducible refine VC.mk ?_); exact zw) | (with_reducible first | refine splitT ?_ | refine splitF ?_) | ((with_reducible refine splitM.mk (fun hsm => ?_) (fun hsm => ?_)) <;> (try exact zx)) | ((with_reducible refine splitB.mk (fun h => ?_) (fun h => ?_)) <;> (try simp only [zs, ne_eq] at h) <;> (try simp (disch := omega) only [w64] at h) <;> (try exact zx)) | (with_reducible intro hz; (try exact absurd hz (Nat.succ_ne_zero _)))))
  · intro i hi
    have hlen := chT_len hC i (by omega)
    by_cases hlt : i < n
    · obtain ⟨⟨nm, fr, ⟨⟨p, q⟩, p', q'⟩, ⟨dp, dq⟩, md, gd⟩, ha⟩ := get_some (l := seg l s n) (i := i) (by omega)
      have hag := (seg_get ha).1
      have hok := ch_ok hC ha
      have ha' : l[s + ((i : Nat) : Int).toNat]? = some (nm, fr, ((p, q), p', q'), (dp, dq), md, gd) := by rw [Int.toNat_natCast]; exact hag
      have hlt' := (List.getElem?_eq_some_iff.1 ha').1
      have hgD : (l[s + ((i : Nat) : Int).toNat]?).getD stD = (nm, fr, ((p, q), p', q'), (dp, dq), md, gd) := by rw [ha']; rfl
      obtain ⟨v1, v2, v3⟩ := spOk_iff.1 (show spOk p q p' q' = true from hok.vl)
      have s1 := smF_ok v1
      have s2 := smF_ok v2
      have s3 := smF_ok (show fOk dp dq = true from hok.dr)
      have l0 := wd12 (show wordB nm = true from hok.nm)
      have l1 := frm_len hC ha
      have l2 := spT_len p q p' q'
      have l3 := frT_len dp dq
      have l4 := decT_19 md
      have l5 := decT_19 gd
      have hmd := md_b hok
      have hgd := gd_b hok
      rcases fr_em fr with hfr | hfr
      · have hfb := fr_b hok hlt hfr
        obtain ⟨⟨nm0, fr0, ⟨⟨p0, q0⟩, p0', q0'⟩, ⟨dp0, dq0⟩, md0, gd0⟩, hb, eb, okb⟩ := ch_z hC (i := fr) (by rw [hL]; exact hfb)
        have hfm : frmT (seg l s n) (nm, fr, ((p, q), p', q'), (dp, dq), md, gd) = nm0 := by unfold frmT; rw [if_pos (by exact hfr)]; dsimp only; rw [eb]
        rw [hfm] at l1
        (repeat' ((try (conv => whnf)); first | (with_reducible first | refine And.intro ?_ ?_ | refine WX.of ?_) | exact zc | ((with_reducible refine VC.mk ?_); exact zw) | with_reducible refine atL_p ha' ?_ | with_reducible refine atL_p (seg_get hb).1 ?_ | ((with_reducible refine VC.mk ?_); refine ⟨hlt', ?_, ?_⟩; (rw [hgD]; exact s1); (rw [hgD]; exact s2)) | ((with_reducible refine VC.mk ?_); exact s3) | ((with_reducible refine VC.mk ?_); exact hmd) | ((with_reducible refine VC.mk ?_); exact hgd) | (with_reducible first | refine splitT ?_ | refine splitF ?_) | ((with_reducible refine splitM.mk (fun hsm => ?_) (fun hsm => ?_)) <;> (try exact zx)) | ((with_reducible refine splitB.mk (fun h => ?_) (fun h => ?_)) <;> (try simp only [zs, ne_eq] at h) <;> (try simp (disch := omega) only [w64] at h) <;> (try exact zx)) | (with_reducible intro hz; (try exact absurd hz (Nat.succ_ne_zero _)))))
        all_goals first
          | exact ⟨hfb⟩
          | (refine ⟨?_⟩; (try simp only [hgD]); simp; omega)
          | skip
        refine ⟨i + 1, by omega, hlt, ?_⟩
        rw [chT_s ha]
        (repeat' ((try (conv => whnf)); first | (with_reducible first | refine And.intro ?_ ?_ | refine WX.of ?_) | exact zc | ((with_reducible refine VC.mk ?_); exact zw) | (with_reducible first | refine splitT ?_ | refine splitF ?_) | ((with_reducible refine splitM.mk (fun hsm => ?_) (fun hsm => ?_)) <;> (try exact zx)) | ((with_reducible refine splitB.mk (fun h => ?_) (fun h => ?_)) <;> (try simp only [zs, ne_eq] at h) <;> (try simp (disch := omega) only [w64] at h) <;> (try exact zx)) | (with_reducible intro hz; (try exact absurd hz (Nat.succ_ne_zero _)))))
        all_goals (refine ⟨?_⟩; simp only [hgD]; unfold stTx; rw [hfm])
      · have hfm : frmT (seg l s n) (nm, fr, ((p, q), p', q'), (dp, dq), md, gd) = [45] := if_neg hfr
        have hfb := hfr
        (repeat' ((try (conv => whnf)); first | (with_reducible first | refine And.intro ?_ ?_ | refine WX.of ?_) | exact zc | ((with_reducible refine VC.mk ?_); exact zw) | with_reducible refine atL_p ha' ?_ | ((with_reducible refine VC.mk ?_); refine ⟨hlt', ?_, ?_⟩; (rw [hgD]; exact s1); (rw [hgD]; exact s2)) | ((with_reducible refine VC.mk ?_); exact s3) | ((with_reducible refine VC.mk ?_); exact hmd) | ((with_reducible refine VC.mk ?_); exact hgd) | (with_reducible first | refine splitT ?_ | refine splitF ?_) | ((with_reducible refine splitM.mk (fun hsm => ?_) (fun hsm => ?_)) <;> (try exact zx)) | ((with_reducible refine splitB.mk (fun h => ?_) (fun h => ?_)) <;> (try simp only [zs, ne_eq] at h) <;> (try simp (disch := omega) only [w64] at h) <;> (try exact zx)) | (with_reducible intro hz; (try exact absurd hz (Nat.succ_ne_zero _)))))
        all_goals first
          | exact ⟨hfb⟩
          | (refine ⟨?_⟩; (try simp only [hgD]); simp; omega)
          | skip
        refine ⟨i + 1, by omega, hlt, ?_⟩
        rw [chT_s ha]
        (repeat' ((try (conv => whnf)); first | (with_reducible first | refine And.intro ?_ ?_ | refine WX.of ?_) | exact zc | ((with_reducible refine VC.mk ?_); exact zw) | (with_reducible first | refine splitT ?_ | refine splitF ?_) | ((with_reducible refine splitM.mk (fun hsm => ?_) (fun hsm => ?_)) <;> (try exact zx)) | ((with_reducible refine splitB.mk (fun h => ?_) (fun h => ?_)) <;> (try simp only [zs, ne_eq] at h) <;> (try simp (disch := omega) only [w64] at h) <;> (try exact zx)) | (with_reducible intro hz; (try exact absurd hz (Nat.succ_ne_zero _)))))
        all_goals (refine ⟨?_⟩; simp only [hgD]; unfold stTx; rw [hfm])
    · obtain rfl : i = n := by omega
      rw [List.take_of_length_le (by omega)]
      (repeat' ((try (conv => whnf)); first | (with_reducible first | refine And.intro ?_ ?_ | refine WX.of ?_) | exact zc | ((with_reducible refine VC.mk ?_); exact zw) | (with_reducible first | refine splitT ?_ | refine splitF ?_) | ((with_reducible refine splitM.mk (fun hsm => ?_) (fun hsm => ?_)) <;> (try exact zx)) | ((with_reducible refine splitB.mk (fun h => ?_) (fun h => ?_)) <;> (try simp only [zs, ne_eq] at h) <;> (try simp (disch := omega) only [w64] at h) <;> (try exact zx)) | (with_reducible intro hz; (try exact absurd hz (Nat.succ_ne_zero _)))))
def s_chT : Spec := fun args S => match args, S with
  | [.sl 0 s n x], [.arr (.prod .str (.prod (.int .i64) (.prod (.prod (.prod (.int .i64) (.int .i64)) (.prod (.int .i64) (.int .i64))) (.prod (.prod (.int .i64) (.int .i64)) (.prod (.int .i64) (.int .i64)))))) l 10 wr] => ⟨(s + n ≤ l.length ∧ n ≤ 1048576) ∧ ∀ (j : Nat) (a : StT), l[j]? = some a → a.1.length < 9223372036854775808, .str (if chB (seg l s n) = true then chT (seg l s n) (seg l s n) else []), [.arr (.prod .str (.prod (.int .i64) (.prod (.prod (.prod (.int .i64) (.int .i64)) (.prod (.int .i64) (.int .i64))) (.prod (.prod (.int .i64) (.int .i64)) (.prod (.int .i64) (.int .i64)))))) l 10 wr]⟩
  | _, _ => noSpec
theorem join6 (a b c d e f : List UInt8) : Lib.join [a, b, c, d, e, f] [32] = ((((((((((a ++ [32]) ++ b) ++ [32]) ++ c) ++ [32]) ++ d) ++ [32]) ++ e) ++ [32]) ++ f) := by
  simp [Lib.join, List.intercalate]
theorem sgT_0 {n : Int} (h : 0 ≤ n) : sgT n = dcl n := if_neg (by omega)
theorem stTx_j {L : List StT} {i : Nat} {a : StT} (h : StOk L i a) : stTx L a = Lib.join [a.1, frmT L a, spT a.2.2.1.1.1 a.2.2.1.1.2 a.2.2.1.2.1 a.2.2.1.2.2, frT a.2.2.2.1.1 a.2.2.2.1.2, sgT a.2.2.2.2.1, sgT a.2.2.2.2.2] [32] ++ [10] := by
  rw [join6, sgT_0 h.md.1, sgT_0 h.gd.1]
  rfl
set_option maxHeartbeats 3200000 in
theorem ok_ChainTextI : SpecOk Tryz.prog 54 s_chT := by
  intro args S h; unfold s_chT at h ⊢; (split at h <;> first | exact False.elim h | skip)
  dsimp only at h ⊢
  rename_i s n x l wr
  obtain ⟨⟨h1, h2⟩, ho⟩ := h
  have hL := seg_len h1
  refine funW tabOk (E := [(57, s_l05Ok), (140, s_spTI), (118, s_frTI), (110, s_sgT), (109, s_join)]) ⟨ok_ValidChainI, ok_SpanTextI, ok_FracTextI, ok_decI, ok_join, trivial⟩ [(10, [(2, 1), (2, 2), (8, 0), (11, 0), (11, 1), (14, 0), (14, 1)])] (k := 1) (fn := Tryz.f54) rfl rfl rfl rfl rfl rfl ?_
  by_cases hC : chB (seg l s n) = true
  · rw [if_pos hC]
    have hn := ch_len hC
    (repeat' ((try (conv => whnf)); first | (with_reducible first | refine And.intro ?_ ?_ | refine WX.of ?_) | exact zc | ((with_reducible refine VC.mk ?_); exact zw) | ((with_reducible refine VC.mk ?_); exact ⟨⟨h1, h2⟩, ho⟩) | ((with_reducible refine splitT_of ?_ ?_); (focus (simp only [hC, Bool.not_true, Bool.not_true, Bool.not_false, decide_true, decide_false]; done))) | ((with_reducible refine splitF_of ?_ ?_); (focus (simp only [hC, Bool.not_true, Bool.not_true, Bool.not_false, decide_true, decide_false]; done))) | (with_reducible first | refine splitT ?_ | refine splitF ?_) | ((with_reducible refine splitM.mk (fun hsm => ?_) (fun hsm => ?_)) <;> (try exact zx)) | ((with_reducible refine splitB.mk (fun h => ?_) (fun h => ?_)) <;> (try simp only [zs, ne_eq] at h) <;> (try simp (disch := omega) only [w64] at h) <;> (try exact zx)) | (with_reducible intro hz; (try exact absurd hz (Nat.succ_ne_zero _)))))
    refine loopW tabOk (E := [(57, s_l05Ok), (140, s_spTI), (118, s_frTI), (110, s_sgT), (109, s_join)]) ⟨ok_ValidChainI, ok_SpanTextI, ok_FracTextI, ok_decI, ok_join, trivial⟩ [(10, [(2, 1), (2, 2), (8, 0), (11, 0), (11, 1), (14, 0), (14, 1)])] (σ := Nat) (fun i => [(0, .sl 0 s n x), (3, .str (chT (seg l s n) ((seg l s n).take i))), (10, .sl 0 s n x), (11, .int .i64 n), (12, .int .i64 i)]) (fun i => [.arr (.prod .str (.prod (.int .i64) (.prod (.prod (.prod (.int .i64) (.int .i64)) (.prod (.int .i64) (.int .i64))) (.prod (.prod (.int .i64) (.int .i64)) (.prod (.int .i64) (.int .i64)))))) l 10 wr]) (fun i => n - i) (fun i => i ≤ n) 0 (Nat.zero_le _) ?_ ?_
    · (repeat' ((try (conv => whnf)); first | (with_reducible first | refine And.intro ?_ ?_ | refine WX.of ?_) | exact zc | ((with_reducible refine VC.mk ?_); exact zw) | (with_reducible first | refine splitT ?_ | refine splitF ?_) | ((with_reducible refine splitM.mk (fun hsm => ?_) (fun hsm => ?_)) <;> (try exact zx)) | ((with_reducible refine splitB.mk (fun h => ?_) (fun h => ?_)) <;> (try simp only [zs, ne_eq] at h) <;> (try simp (disch := omega) only [w64] at h) <;> (try exact zx)) | (with_reducible intro hz; (try exact absurd hz (Nat.succ_ne_zero _)))))
    · intro i hi
      have hlen := chT_len hC i (by omega)
      by_cases hlt : i < n
      · obtain ⟨⟨nm, fr, ⟨⟨p, q⟩, p', q'⟩, ⟨dp, dq⟩, md, gd⟩, ha⟩ := get_some (l := seg l s n) (i := i) (by omega)
        have hok := ch_ok hC ha
        have v0 : spOk p q p' q' = true := hok.vl
        have v1 : fOk dp dq = true := hok.dr
        have l0 := wd12 (show wordB nm = true from hok.nm)
        have l1 := frm_len hC ha
        have l2 := spT_len p q p' q'
        have l3 := frT_len dp dq
        have l4 := sgT_20 md
        have l5 := sgT_20 gd
        have hmd : -9223372036854775807 ≤ md ∧ md ≤ 9223372036854775807 := md_c hok
        have hgd : -9223372036854775807 ≤ gd ∧ gd ≤ 9223372036854775807 := gd_c hok
        have hj := join6 nm (frmT (seg l s n) (nm, fr, ((p, q), p', q'), (dp, dq), md, gd)) (spT p q p' q') (frT dp dq) (sgT md) (sgT gd)
        have hjl : (Lib.join [nm, frmT (seg l s n) (nm, fr, ((p, q), p', q'), (dp, dq), md, gd), spT p q p' q', frT dp dq, sgT md, sgT gd] [32]).length ≤ 1000 := by
          rw [hj]; simp only [List.length_append, List.length_cons, List.length_nil]; omega
        have hj2 : (chT (seg l s n) ((seg l s n).take i)).length + (Lib.join [nm, frmT (seg l s n) (nm, fr, ((p, q), p', q'), (dp, dq), md, gd), spT p q p' q', frT dp dq, sgT md, sgT gd] [32] ++ [10]).length ≤ 9223372036854775807 := by
          rw [List.length_append]; simp only [List.length_cons, List.length_nil]; omega
        rcases fr_em fr with hfr | hfr
        · have hfb := fr_b hok hlt hfr
          obtain ⟨⟨nm0, fr0, ⟨⟨p0, q0⟩, p0', q0'⟩, ⟨dp0, dq0⟩, md0, gd0⟩, hb, eb, okb⟩ := ch_z hC (i := fr) (by rw [hL]; exact hfb)
          have hfm : frmT (seg l s n) (nm, fr, ((p, q), p', q'), (dp, dq), md, gd) = nm0 := by unfold frmT; rw [if_pos (by exact hfr)]; dsimp only; rw [eb]
          rw [hfm] at hjl hj2
          (repeat' ((try (conv => whnf)); first | (with_reducible first | refine And.intro ?_ ?_ | refine WX.of ?_) | exact zc | ((with_reducible refine VC.mk ?_); exact zw) | with_reducible refine atL_i ha ?_ | with_reducible refine atL_p (seg_get hb).1 ?_ | ((with_reducible refine VC.mk ?_); exact hmd) | ((with_reducible refine VC.mk ?_); exact hgd) | (with_reducible first | refine splitT ?_ | refine splitF ?_) | ((with_reducible refine splitM.mk (fun hsm => ?_) (fun hsm => ?_)) <;> (try exact zx)) | ((with_reducible refine splitB.mk (fun h => ?_) (fun h => ?_)) <;> (try simp only [zs, ne_eq] at h) <;> (try simp (disch := omega) only [w64] at h) <;> (try exact zx)) | (with_reducible intro hz; (try exact absurd hz (Nat.succ_ne_zero _)))))
          all_goals first
            | exact ⟨hfb⟩
            | (refine ⟨rfl, ⟨by omega, by omega⟩, ?_⟩; simp only [v0, v1, if_true]; exact Nat.le_trans hjl (by omega))
            | (refine ⟨?_⟩; simp only [v0, v1, if_true]; exact Nat.le_trans (Nat.add_le_add_right hjl _) (by simp))
            | (refine ⟨?_⟩; simp only [v0, v1, if_true]; exact hj2)
            | skip
          refine ⟨i + 1, by omega, hlt, ?_⟩
          rw [chT_s ha, stTx_j hok, hfm]
          (repeat' ((try (conv => whnf)); first | (with_reducible first | refine And.intro ?_ ?_ | refine WX.of ?_) | exact zc | ((with_reducible refine VC.mk ?_); exact zw) | (with_reducible first | refine splitT ?_ | refine splitF ?_) | ((with_reducible refine splitM.mk (fun hsm => ?_) (fun hsm => ?_)) <;> (try exact zx)) | ((with_reducible refine splitB.mk (fun h => ?_) (fun h => ?_)) <;> (try simp only [zs, ne_eq] at h) <;> (try simp (disch := omega) only [w64] at h) <;> (try exact zx)) | (with_reducible intro hz; (try exact absurd hz (Nat.succ_ne_zero _)))))
          all_goals (refine ⟨?_⟩; simp only [v0, v1, if_true])
        · have hfm : frmT (seg l s n) (nm, fr, ((p, q), p', q'), (dp, dq), md, gd) = [45] := if_neg hfr
          have hfb := hfr
          rw [hfm] at hjl hj2
          (repeat' ((try (conv => whnf)); first | (with_reducible first | refine And.intro ?_ ?_ | refine WX.of ?_) | exact zc | ((with_reducible refine VC.mk ?_); exact zw) | with_reducible refine atL_i ha ?_ | ((with_reducible refine VC.mk ?_); exact hmd) | ((with_reducible refine VC.mk ?_); exact hgd) | (with_reducible first | refine splitT ?_ | refine splitF ?_) | ((with_reducible refine splitM.mk (fun hsm => ?_) (fun hsm => ?_)) <;> (try exact zx)) | ((with_reducible refine splitB.mk (fun h => ?_) (fun h => ?_)) <;> (try simp only [zs, ne_eq] at h) <;> (try simp (disch := omega) only [w64] at h) <;> (try exact zx)) | (with_reducible intro hz; (try exact absurd hz (Nat.succ_ne_zero _)))))
          all_goals first
            | exact ⟨hfb⟩
            | (refine ⟨rfl, ⟨by omega, by omega⟩, ?_⟩; simp only [v0, v1, if_true]; exact Nat.le_trans hjl (by omega))
            | (refine ⟨?_⟩; simp only [v0, v1, if_true]; exact Nat.le_trans (Nat.add_le_add_right hjl _) (by simp))
            | (refine ⟨?_⟩; simp only [v0, v1, if_true]; exact hj2)
            | skip
          refine ⟨i + 1, by omega, hlt, ?_⟩
          rw [chT_s ha, stTx_j hok, hfm]
          (repeat' ((try (conv => whnf)); first | (with_reducible first | refine And.intro ?_ ?_ | refine WX.of ?_) | exact zc | ((with_reducible refine VC.mk ?_); exact zw) | (with_reducible first | refine splitT ?_ | refine splitF ?_) | ((with_reducible refine splitM.mk (fun hsm => ?_) (fun hsm => ?_)) <;> (try exact zx)) | ((with_reducible refine splitB.mk (fun h => ?_) (fun h => ?_)) <;> (try simp only [zs, ne_eq] at h) <;> (try simp (disch := omega) only [w64] at h) <;> (try exact zx)) | (with_reducible intro hz; (try exact absurd hz (Nat.succ_ne_zero _)))))
          all_goals (refine ⟨?_⟩; simp only [v0, v1, if_true])
      · obtain rfl : i = n := by omega
        rw [List.take_of_length_le (by omega)]
        (repeat' ((try (conv => whnf)); first | (with_reducible first | refine And.intro ?_ ?_ | refine WX.of ?_) | exact zc | ((with_reducible refine VC.mk ?_); exact zw) | (with_reducible first | refine splitT ?_ | refine splitF ?_) | ((with_reducible refine splitM.mk (fun hsm => ?_) (fun hsm => ?_)) <;> (try exact zx)) | ((with_reducible refine splitB.mk (fun h => ?_) (fun h => ?_)) <;> (try simp only [zs, ne_eq] at h) <;> (try simp (disch := omega) only [w64] at h) <;> (try exact zx)) | (with_reducible intro hz; (try exact absurd hz (Nat.succ_ne_zero _)))))
  · rw [if_neg hC]
    have hC : chB (seg l s n) = false := by simpa using hC
    (repeat' ((try (conv => whnf)); first | (with_reducible first | refine And.intro ?_ ?_ | refine WX.of ?_) | exact zc | ((with_reducible refine VC.mk ?_); exact zw) | ((with_reducible refine VC.mk ?_); exact ⟨⟨h1, h2⟩, ho⟩) | ((with_reducible refine splitT_of ?_ ?_); (focus (simp only [hC, Bool.not_false, Bool.not_true, Bool.not_false, decide_true, decide_false]; done))) | ((with_reducible refine splitF_of ?_ ?_); (focus (simp only [hC, Bool.not_false, Bool.not_true, Bool.not_false, decide_true, decide_false]; done))) | (with_reducible first | refine splitT ?_ | refine splitF ?_) | ((with_reducible refine splitM.mk (fun hsm => ?_) (fun hsm => ?_)) <;> (try exact zx)) | ((with_reducible refine splitB.mk (fun h => ?_) (fun h => ?_)) <;> (try simp only [zs, ne_eq] at h) <;> (try simp (disch := omega) only [w64] at h) <;> (try exact zx)) | (with_reducible intro hz; (try exact absurd hz (Nat.succ_ne_zero _)))))
end Go.Proofs.YtamachahlhlhlaaGreatDoor.Eng
set_option linter.unusedVariables false
set_option linter.unusedSimpArgs false
namespace Go.Proofs.YtamachahlhlhlaaGreatDoor.Eng
open Go Go.RowKit
set_option maxRecDepth 100000
def stLn (L : List StT) (a : StT) : List UInt8 := (((((((((a.1 ++ [32]) ++ frmT L a) ++ [32]) ++ spT a.2.2.1.1.1 a.2.2.1.1.2 a.2.2.1.2.1 a.2.2.1.2.2) ++ [32]) ++ frT a.2.2.2.1.1 a.2.2.2.1.2) ++ [32]) ++ dcl a.2.2.2.2.1) ++ [32]) ++ dcl a.2.2.2.2.2
theorem ch_uq {L : List StT} (h : chB L = true) {i j : Nat} {a b : StT} (ha : L[i]? = some a) (hb : L[j]? = some b) (hij : i < j) : a.1 ≠ b.1 := by
  have := ch_at h hb
  unfold stB s1B at this
  simp only [Bool.and_eq_true, Bool.not_eq_true', List.any_eq_false, decide_eq_true_eq] at this
  exact this.1.1.2 a (List.mem_of_getElem? (i := i) (by rw [List.getElem?_take, if_pos hij]; exact ha))
/-- From which one, by its name: the last such one, and the first. -/
def frmS (A : List StT) (w : List UInt8) : Nat → Int
  | 0 => -1
  | k + 1 => if (stAt A (k : Nat)).1 = w then (k : Int) else frmS A w k
def frmR (A : List StT) (w : List UInt8) : Int := frmS A w A.length
def frmP (A : List StT) (w : List UInt8) : Int := findI (fun o => decide (o.1 = w)) A
theorem frmS_no {A : List StT} {w : List UInt8} : ∀ k, k ≤ A.length → (∀ (j : Nat) (a : StT), j < k → A[j]? = some a → a.1 ≠ w) → frmS A w k = -1
  | 0, _, _ => rfl
  | k + 1, hk, h => by
    obtain ⟨a, ha⟩ := get_some (l := A) (i := k) (by omega)
    simp only [frmS]
    rw [stAt_e ha, if_neg (h k a (by omega) ha)]
    exact frmS_no k (by omega) fun j b hj hb => h j b (by omega) hb
theorem frmS_at {A : List StT} {w : List UInt8} {i : Nat} {a : StT} (ha : A[i]? = some a) (he : a.1 = w) : ∀ k, i < k → k ≤ A.length → (∀ (j : Nat) (b : StT), i < j → j < k → A[j]? = some b → b.1 ≠ w) → frmS A w k = i
  | 0, h0, _, _ => by omega
  | k + 1, h0, hk, h => by
    simp only [frmS]
    by_cases hik : i = k
    · subst hik
      rw [stAt_e ha, if_pos he]
    · obtain ⟨b, hb⟩ := get_some (l := A) (i := k) (by omega)
      rw [stAt_e hb, if_neg (h k b (by omega) (by omega) hb)]
      exact frmS_at ha he k (by omega) (by omega) fun j b hj hj2 hb => h j b hj (by omega) hb
theorem nm_no {L : List StT} (h : chB L = true) {i : Nat} {a : StT} (ha : L[i]? = some a) {c : UInt8} (hc : letB c = false) : c ∉ a.1 := word_b (ch_ok h ha).nm hc
theorem frm_of {L : List StT} (h : chB L = true) {i : Nat} {a : StT} (ha : L[i]? = some a) : frmR (L.take i) (frmT L a) = a.2.1 ∧ frmP (L.take i) (frmT L a) = a.2.1 ∧ (0 ≤ a.2.1 ∨ frmT L a = [45]) := by
  have hi := (List.getElem?_eq_some_iff.1 ha).1
  have hf := (ch_ok h ha).fr
  have hl : (L.take i).length = i := by rw [List.length_take]; omega
  have hg : ∀ (j : Nat) (b : StT), (L.take i)[j]? = some b → j < i ∧ L[j]? = some b := fun j b hb => by
    rw [List.getElem?_take] at hb
    split at hb
    · exact ⟨by assumption, hb⟩
    · cases hb
  by_cases h0 : 0 ≤ a.2.1
  · obtain ⟨b, hb, e, _⟩ := ch_z h (i := a.2.1) (by omega)
    have ef : frmT L a = b.1 := by unfold frmT; rw [if_pos h0, e]
    have hz : ((a.2.1.toNat : Nat) : Int) = a.2.1 := by omega
    have hbt : (L.take i)[a.2.1.toNat]? = some b := by rw [List.getElem?_take, if_pos (by omega)]; exact hb
    refine ⟨?_, ?_, .inl h0⟩
    · unfold frmR
      rw [ef, frmS_at hbt rfl _ (by omega) (Nat.le_refl _) fun j c hj _ hc => (ch_uq h hb (hg j c hc).2 hj).symm, hz]
    · unfold frmP
      rw [ef, findI_some hbt (by simp) fun j c hj hc => by simpa using ch_uq h (hg j c hc).2 hb hj, hz]
  · have ef : frmT L a = [45] := if_neg h0
    have hn : ∀ (j : Nat) (b : StT), (L.take i)[j]? = some b → b.1 ≠ [45] := fun j b hb e => nm_no h (hg j b hb).2 (c := 45) (by decide) (by rw [e]; simp)
    refine ⟨?_, ?_, .inr ef⟩
    · unfold frmR
      rw [ef, frmS_no _ (Nat.le_refl _) fun j b _ hb => hn j b hb]; omega
    · unfold frmP
      rw [ef, findI_none fun j b hb => by simpa using hn j b hb]; omega
def chW (f : Int) (n : List UInt8 → Int) (g : List UInt8 → Int × Int) (s : List UInt8 → (Int × Int) × (Int × Int)) (W : List (List UInt8)) : StT := (wR W 0, f, s (wR W 2), g (wR W 3), n (wR W 4), n (wR W 5))
def chG (W : List (List UInt8)) : Bool := ((spnR (wR W 2)).isSome && (frR (wR W 3)).isSome) && ((numR (wR W 4)).isSome && (numR (wR W 5)).isSome)
def chFS (A : List StT) (ln : List UInt8) : Option StT := if (splL 32 ln).length = 6 ∧ chG (splL 32 ln) = true ∧ (0 ≤ frmR A (wR (splL 32 ln) 1) ∨ wR (splL 32 ln) 1 = [45]) then some (chW (frmR A (wR (splL 32 ln) 1)) numJ frJ spnJ (splL 32 ln)) else none
def chFP (A : List StT) (ln : List UInt8) : Option StT := if (splL 32 ln).length = 6 then some (chW (frmP A (wR (splL 32 ln) 1)) nmb frD spnD (splL 32 ln)) else none
def chtR (t : List UInt8) : Option (List StT) := if (splL 10 t).getLast? = some [] then match foL chFS [] (splL 10 t).dropLast with
    | some L => if chB L = true ∧ chT L L = t then some L else none
    | none => none
  else none
def chtP (t : List UInt8) : Option (List StT) := if (splL 10 t).getLast? = some [] ∧ (splL 10 t).length ≤ 31 then match foL chFP [] (splL 10 t).dropLast with
    | some L => if chB L = true ∧ chT L L = t then some L else none
    | none => none
  else none
theorem ln_of {L : List StT} (h : chB L = true) {i : Nat} {a : StT} (ha : L[i]? = some a) : (10 : UInt8) ∉ stLn L a ∧ splL 32 (stLn L a) = [a.1, frmT L a, spT a.2.2.1.1.1 a.2.2.1.1.2 a.2.2.1.2.1 a.2.2.1.2.2, frT a.2.2.2.1.1 a.2.2.2.1.2, dcl a.2.2.2.2.1, dcl a.2.2.2.2.2] := by
  have hk := ch_ok h ha
  have hi := (List.getElem?_eq_some_iff.1 ha).1
  have hf := hk.fr
  obtain ⟨o1, o2, o3⟩ := spOk_iff.1 (show spOk a.2.2.1.1.1 a.2.2.1.1.2 a.2.2.1.2.1 a.2.2.1.2.2 = true from hk.vl)
  have m1 : ∀ c : UInt8, letB c = false → c ≠ 45 → c ∉ frmT L a := fun c hc hc2 => by
    unfold frmT
    split
    · obtain ⟨b, hb, e, _⟩ := ch_z h (i := a.2.1) (by omega)
      rw [e]
      exact nm_no h hb hc
    · simpa using hc2
  have md : ∀ c : UInt8, c.toNat < 45 → c ∉ dcl a.2.2.2.2.1 := fun c hc => dg_no (fun x hx => .inl (dcl_b (by have := hk.md; omega) (by have := hk.md; omega) x hx)) hc
  have gd : ∀ c : UInt8, c.toNat < 45 → c ∉ dcl a.2.2.2.2.2 := fun c hc => dg_no (fun x hx => .inl (dcl_b (by have := hk.gd; omega) (by have := hk.gd; omega) x hx)) hc
  have sp : ∀ c : UInt8, c.toNat < 45 → c ∉ spT a.2.2.1.1.1 a.2.2.1.1.2 a.2.2.1.2.1 a.2.2.1.2.2 := fun c hc => by
    have q1 := frT_no o1 (c := c) (.inl hc)
    have q2 := frT_no o2 (c := c) (.inl hc)
    have q3 : c ≠ 46 := fun e => by subst e; exact absurd hc (by decide)
    simp [spT, q1, q2, q3]
  constructor
  · have n0 := nm_no h ha (c := 10) (by decide)
    have n1 := m1 10 (by decide) (by decide)
    have n2 := sp 10 (by decide)
    have n3 := frT_no hk.dr (c := 10) (.inl (by decide))
    have n4 := md 10 (by decide)
    have n5 := gd 10 (by decide)
    simp [stLn, n0, n1, n2, n3, n4, n5]
  · have e : stLn L a = a.1 ++ 32 :: (frmT L a ++ 32 :: (spT a.2.2.1.1.1 a.2.2.1.1.2 a.2.2.1.2.1 a.2.2.1.2.2 ++ 32 :: (frT a.2.2.2.1.1 a.2.2.2.1.2 ++ 32 :: (dcl a.2.2.2.2.1 ++ 32 :: dcl a.2.2.2.2.2)))) := by simp [stLn]
    rw [e, splL_app (nm_no h ha (by decide)), splL_app (m1 32 (by decide) (by decide)), splL_app (sp 32 (by decide)), splL_app (frT_no hk.dr (.inl (by decide))), splL_app (md 32 (by decide)), splL_no (gd 32 (by decide))]
theorem st_of {L : List StT} (h : chB L = true) {i : Nat} {a : StT} (ha : L[i]? = some a) : chFS (L.take i) (stLn L a) = some a ∧ chFP (L.take i) (stLn L a) = some a := by
  obtain ⟨_, hW⟩ := ln_of h ha
  obtain ⟨f1, f2, f3⟩ := frm_of h ha
  have hk := ch_ok h ha
  have hmd := hk.md
  have hgd := hk.gd
  have hvl := sp_of (show spOk a.2.2.1.1.1 a.2.2.1.1.2 a.2.2.1.2.1 a.2.2.1.2.2 = true from hk.vl)
  have hdr := fr_of hk.dr
  constructor
  · unfold chFS
    rw [hW, if_pos]
    · simp only [chW, wR, List.getElem?_cons_zero, List.getElem?_cons_succ, Option.getD_some]
      rw [f1, numJ_dcl hmd.1 (by omega), numJ_dcl hgd.1 (by omega), frJ_eq hdr, spJ_eq hvl]
    · simp only [chG, wR, List.getElem?_cons_zero, List.getElem?_cons_succ, Option.getD_some]
      refine ⟨rfl, ?_, ?_⟩
      · rw [hvl, hdr, numR_dcl hmd.1 (by omega), numR_dcl hgd.1 (by omega)]; rfl
      · rw [f1]; exact f3
  · unfold chFP
    rw [hW]
    simp only [chW, wR, List.getElem?_cons_zero, List.getElem?_cons_succ, Option.getD_some, frD, spnD]
    rw [f2, hvl, hdr, if_pos (by rfl), nmb_dcl hmd.1 (by omega), nmb_dcl hgd.1 (by omega)]
    rfl
theorem chT_ln (L M : List StT) : chT L M = M.flatMap fun a => stLn L a ++ [10] := rfl
theorem chtR_of {L : List StT} (h : chB L = true) : chtR (chT L L) = some L ∧ chtP (chT L L) = some L := by
  have e : splL 10 (chT L L) = L.map (stLn L) ++ [[]] := by
    rw [chT_ln]
    exact spl_lines fun a ha => by
      obtain ⟨i, hi⟩ := List.getElem?_of_mem ha
      exact (ln_of h hi).1
  have hn := ch_len h
  constructor
  · unfold chtR
    rw [e, if_pos (by simp), List.dropLast_concat, foL_all fun i a ha => (st_of h ha).1]
    simp only
    rw [if_pos ⟨h, trivial⟩]
  · unfold chtP
    rw [e, if_pos ⟨by simp, by simp; omega⟩, List.dropLast_concat, foL_all fun i a ha => (st_of h ha).2]
    simp only
    rw [if_pos ⟨h, trivial⟩]
theorem chtR_to {t : List UInt8} {L : List StT} (h : chtR t = some L) : chB L = true ∧ chT L L = t := by
  unfold chtR at h
  split at h
  · split at h
    · split at h
      · rename_i hc
        injection h with h
        subst h
        exact hc
      · cases h
    · cases h
  · cases h
theorem chtP_to {t : List UInt8} {L : List StT} (h : chtP t = some L) : chB L = true ∧ chT L L = t := by
  unfold chtP at h
  split at h
  · split at h
    · split at h
      · rename_i hc
        injection h with h
        subst h
        exact hc
      · cases h
    · cases h
  · cases h
theorem ch_same (t : List UInt8) : chtP t = chtR t := opt_eq (fun t v => ⟨fun h => by rw [← (chtP_to h).2]; exact (chtR_of (chtP_to h).1).1, fun h => by rw [← (chtR_to h).2]; exact (chtR_of (chtR_to h).1).2⟩) t
end Go.Proofs.YtamachahlhlhlaaGreatDoor.Eng
set_option linter.unusedVariables false
set_option linter.unusedSimpArgs false
namespace Go.Proofs.YtamachahlhlhlaaGreatDoor.Eng
open Go Go.RowKit
set_option maxRecDepth 100000
theorem splL_len (c : UInt8) : ∀ s, (splL c s).length ≤ s.length + 1
  | [] => by simp [splL]
  | x :: r => by
    have := splL_len c r
    simp only [splL]
    split
    · simp; exact this
    · split
      · rename_i h t e
        rw [e] at this
        simp at this ⊢
        omega
      · simp
def s_lines : Spec := fun args S => match args, S with
  | [.str t], [] => ⟨t.length ≤ 1048576 ∧ t ≠ [], .tup [.sl 0 0 ((splL 10 t).length - 1) 1, .bool (decide ((splL 10 t).getLast? = some []))], [.arr .str (splL 10 t) 1 true]⟩
  | _, _ => noSpec
theorem ok_lines : SpecOk Tryz.prog 104 s_lines := by
  intro args S h; unfold s_lines at h ⊢; (split at h <;> first | exact False.elim h | skip)
  dsimp only at h ⊢
  rename_i t
  obtain ⟨h1, h2⟩ := h
  have hne := splL_ne 10 t
  have hl : 1 ≤ (splL 10 t).length := by
    cases e : splL 10 t with
    | nil => exact absurd e hne
    | cons a r => simp
  have hl2 := splL_len 10 t
  have hw : IntKind.i64.wrap (((splL 10 t).length : Int) - 1) = ((splL 10 t).length : Int) - 1 := w64 (by omega)
  have hix : 0 + (IntKind.i64.wrap (((splL 10 t).length : Int) - 1)).toNat = (splL 10 t).length - 1 := by rw [hw]; omega
  obtain ⟨a, ha⟩ := get_some (l := splL 10 t) (i := (splL 10 t).length - 1) (by omega)
  have hgl : (splL 10 t).getLast? = some a := by rw [List.getLast?_eq_getElem?]; exact ha
  refine funW tabOk (E := [(105, s_spl)]) ⟨ok_Split, trivial⟩ [] (k := 0) (fn := Tryz.f104) rfl rfl rfl rfl rfl rfl ?_
  (repeat' ((try (conv => whnf)); first | (with_reducible first | refine And.intro ?_ ?_ | refine WX.of ?_) | exact zc | ((with_reducible refine VC.mk ?_); exact zw) | ((with_reducible refine splitT_of ?_ ?_); (focus (simp only [decide_eq_false h2, Bool.not_true, Bool.not_false, decide_true, decide_false]; done))) | ((with_reducible refine splitF_of ?_ ?_); (focus (simp only [decide_eq_false h2, Bool.not_true, Bool.not_false, decide_true, decide_false]; done))) | with_reducible refine atL_e hix ha ?_ | ((with_reducible refine VC.mk ?_); (rw [hw]); (refine ⟨?_, ?_⟩ <;> omega)) | (with_reducible first | refine splitT ?_ | refine splitF ?_) | ((with_reducible refine splitM.mk (fun hsm => ?_) (fun hsm => ?_)) <;> (try exact zx)) | ((with_reducible refine splitB.mk (fun h => ?_) (fun h => ?_)) <;> (try simp only [zs, ne_eq] at h) <;> (try simp (disch := omega) only [w64] at h) <;> (try exact zx)) | (with_reducible intro hz; (try exact absurd hz (Nat.succ_ne_zero _)))))
  exact ⟨by
    rw [hw, hgl, show (((splL 10 t).length : Int) - 1).toNat = (splL 10 t).length - 1 by omega, show (splL 10 t).length + 0 - ((splL 10 t).length - 1) = 1 by omega]
    simp⟩
end Go.Proofs.YtamachahlhlhlaaGreatDoor.Eng
set_option linter.unusedVariables false
set_option linter.unusedSimpArgs false
namespace Go.Proofs.YtamachahlhlhlaaGreatDoor.Eng
open Go Go.RowKit
set_option maxRecDepth 100000
theorem splL_sub (c : UInt8) : ∀ (s x : List UInt8), x ∈ splL c s → x.length ≤ s.length
  | [], x, h => by simp [splL] at h; subst h; simp
  | y :: r, x, h => by
    simp only [splL] at h
    split at h
    · rcases List.mem_cons.1 h with rfl | h
      · simp
      · have := splL_sub c r x h; simp; omega
    · split at h
      · rename_i a t e
        rcases List.mem_cons.1 h with rfl | h
        · have := splL_sub c r a (by rw [e]; exact List.mem_cons_self); simp; omega
        · have := splL_sub c r x (by rw [e]; exact List.mem_cons_of_mem _ h); simp; omega
      · simp at h; subst h; simp
theorem wR_at {W : List (List UInt8)} {i : Nat} (h : i < W.length) : W[i]? = some (wR W i) := by
  obtain ⟨a, ha⟩ := get_some (l := W) h
  unfold wR; rw [ha]; rfl
theorem wR_len {c : UInt8} {t : List UInt8} {i : Nat} (h : i < (splL c t).length) : (wR (splL c t) i).length ≤ t.length := splL_sub c t _ (List.mem_of_getElem? (wR_at h))
theorem atL_w {α : Type} {l : List α} {i j : Nat} {a : α} {K : α → Prop} (h : l[i]? = some a) (e : j = i) (hk : K a) : atL l j K := by subst e; exact atL_iff.2 ⟨a, h, hk⟩
end Go.Proofs.YtamachahlhlhlaaGreatDoor.Eng
set_option linter.unusedVariables false
set_option linter.unusedSimpArgs false
namespace Go.Proofs.YtamachahlhlhlaaGreatDoor.Eng
open Go Go.RowKit
set_option maxRecDepth 100000
def s_linesE : Spec := fun args S => match args, S with
  | [.str t], [] => ⟨t = [], .tup [.nils, .bool true], []⟩
  | _, _ => noSpec
theorem ok_linesE : SpecOk Tryz.prog 104 s_linesE := by
  intro args S h; unfold s_linesE at h ⊢; (split at h <;> first | exact False.elim h | skip)
  dsimp only at h ⊢
  subst h
  refine funW tabOk (E := []) trivial [] (k := 0) (fn := Tryz.f104) rfl rfl rfl rfl rfl rfl ?_
  (repeat' ((try (conv => whnf)); first | (with_reducible first | refine And.intro ?_ ?_ | refine WX.of ?_) | exact zc | ((with_reducible refine VC.mk ?_); exact zw) | (with_reducible first | refine splitT ?_ | refine splitF ?_) | ((with_reducible refine splitM.mk (fun hsm => ?_) (fun hsm => ?_)) <;> (try exact zx)) | ((with_reducible refine splitB.mk (fun h => ?_) (fun h => ?_)) <;> (try simp only [zs, ne_eq] at h) <;> (try simp (disch := omega) only [w64] at h) <;> (try exact zx)) | (with_reducible intro hz; (try exact absurd hz (Nat.succ_ne_zero _)))))
end Go.Proofs.YtamachahlhlhlaaGreatDoor.Eng
set_option linter.unusedVariables false
set_option linter.unusedSimpArgs false
namespace Go.Proofs.YtamachahlhlhlaaGreatDoor.Eng
open Go Go.RowKit
set_option maxRecDepth 100000
end Go.Proofs.YtamachahlhlhlaaGreatDoor.Eng
set_option linter.unusedVariables false
set_option linter.unusedSimpArgs false
namespace Go.Proofs.YtamachahlhlhlaaGreatDoor.Eng
open Go Go.RowKit
set_option maxRecDepth 100000
def sh_lays145_ren : Go.Shelf.Ren := ⟨fun | 145 => 217 | 220 => 275 | 219 => 300 | 217 => 317 | 225 => 318 | 224 => 319 | 267 => 320 | 266 => 335 | 314 => 336 | n => n, fun | 9 => 9 | 4 => 4 | 59 => 241 | 3 => 3 | 5 => 5 | 46 => 275 | 146 => 336 | 51 => 328 | n => n, fun | 1 => 0 | n => n⟩
theorem sh_lays145 : Go.Proofs.Lays.n145 Tryz.prog sh_lays145_ren := {
  mixed := by kernel_rfl
  f145 := Tryz.func217.trans (congrArg some (by kernel_rfl))
  f217 := Tryz.func317.trans (congrArg some (by kernel_rfl))
  f219 := Tryz.func300.trans (congrArg some (by kernel_rfl))
  f220 := Tryz.func275.trans (congrArg some (by kernel_rfl))
  f224 := Tryz.func319.trans (congrArg some (by kernel_rfl))
  f225 := Tryz.func318.trans (congrArg some (by kernel_rfl))
  f266 := Tryz.func335.trans (congrArg some (by kernel_rfl))
  f267 := Tryz.func320.trans (congrArg some (by kernel_rfl))
  f314 := Tryz.func336.trans (congrArg some (by kernel_rfl))
  t3 := Tryz.underlying3
  a3 := Tryz.isAgg3
  z3 := Tryz.sizeOf3
  v3 := Tryz.zeroValue3
  t4 := Tryz.underlying4
  a4 := Tryz.isAgg4
  z4 := Tryz.sizeOf4
  v4 := Tryz.zeroValue4
  t5 := Tryz.underlying5
  a5 := Tryz.isAgg5
  z5 := Tryz.sizeOf5
  v5 := Tryz.zeroValue5
  t9 := Tryz.underlying9
  a9 := Tryz.isAgg9
  z9 := Tryz.sizeOf9
  v9 := Tryz.zeroValue9
  t46 := Tryz.underlying275
  a46 := Tryz.isAgg275
  z46 := Tryz.sizeOf275
  v46 := Tryz.zeroValue275
  t51 := Tryz.underlying328
  a51 := Tryz.isAgg328
  z51 := Tryz.sizeOf328
  v51 := Tryz.zeroValue328
  t59 := Tryz.underlying241
  a59 := Tryz.isAgg241
  z59 := Tryz.sizeOf241
  v59 := Tryz.zeroValue241
  t146 := Tryz.underlying336
  a146 := Tryz.isAgg336
  z146 := Tryz.sizeOf336
  v146 := Tryz.zeroValue336
  g1 := by kernel_rfl }
open Go.RowKit Go.Lib in
/-- strings.Cut: "Cut slices s around the first instance of sep, returning the text before and after sep. The found result reports whether sep appears in s. If sep does not appear in s, cut returns s, "", false.": IT RETURNS 'Lib.cut s sep'; the world is as it was but for the count of draws. (LAID: no walk: one application.) -/
theorem sh_strings_Cut (s sep : ByteArray) (m : Int) (w : World) (hs : s.size < 4294967281) (hm : w.cell? ⟨0, 0, none⟩ = some (.int .i64 m)) :
    Calls Tryz.prog 217 #[.string s, .string sep] w fun e w' => e = .returned (.tuple #[.string ⟨(Lib.cut s.data.toList sep.data.toList).1.toArray⟩, .string ⟨(Lib.cut s.data.toList sep.data.toList).2.1.toArray⟩, .bool (Lib.cut s.data.toList sep.data.toList).2.2]) ∧ ∃ n, w' = w.drewN n := Any.strings_Cut sh_lays145 s sep m w hs hm
/-- A call of flat values that answers several flat values and leaves what was; what the world holds of the library's variables is told. -/
theorem Runs_tupR {f : FuncId} {H : Heap} {more vs : List Value} (hen : Enters Tryz.prog f) (hmore : ∀ {ι : Ren} {ys : List Value}, LRel ι more ys → ys = more) (hv : ∀ v ∈ vs, flatV v = true)
    (hcon : ∀ w, RdW w → Calls Tryz.prog f ⟨more⟩ w fun e w' => e = .returned (.tuple ⟨vs⟩) ∧ Below w.heap.size w w') :
    Runs Tryz.prog f more H (fun u G => u = .tuple ⟨vs⟩ ∧ G = H) := by
  refine ⟨hen, fun w0 ι w args' h2 h3 => ?_⟩
  have := hmore h3
  subst this
  refine (hcon w h2.rd).mono fun e w' ⟨he, hb⟩ => ?_
  refine ⟨_, _, _, ι, he, ⟨rfl, rfl⟩, .tuple _ _ rfl fun i v v' h1 h2 => ?_, h2.after hb, .refl _ _, OCs.refl _ _, Nat.le_refl _⟩
  rw [h1] at h2
  obtain rfl := Option.some.inj h2
  exact .flat (hv v (List.mem_of_getElem? h1))
theorem RunsS_tupR {f : FuncId} {args xs : List SV} {S : List SB} (hen : Enters Tryz.prog f) (ha : args.all flatS = true) (hv : xs.all flatS = true)
    (hcon : ∀ w, RdW w → Calls Tryz.prog f ⟨args.map toV⟩ w fun e w' => e = .returned (.tuple ⟨xs.map toV⟩) ∧ Below w.heap.size w w') : RunsS Tryz.prog f args S (.tup xs) S := by
  intro H ρ args' hD hd h
  have e := LDR.fun2 h (map_toV ha ρ)
  subst e
  have hfl := (map_toV ha ρ).flat ha
  have h1 := map_toV hv ρ
  have hvf : ∀ v ∈ xs.map toV, flatV v = true := fun v hm => List.all_eq_true.1 (h1.flat hv) v hm
  exact ⟨_, H, ρ, Runs_tupR hen (fun hl => (hl.flat_eq fun v hv => List.all_eq_true.1 hfl v hv)) hvf hcon, .tup _ _ h1.1 h1.2, .refl hD hd⟩
def s_cut : Spec := fun args S => match args, S with
  | [.str s, .str p], [] => ⟨s.length ≤ 1048576, .tup [.str (Lib.cut s p).1, .str (Lib.cut s p).2.1, .bool (Lib.cut s p).2.2], []⟩
  | _, _ => noSpec
theorem ok_Cut : SpecOk Tryz.prog 217 s_cut := by
  intro args S h; unfold s_cut at h ⊢; (split at h <;> first | exact False.elim h | skip)
  dsimp only at h ⊢
  rename_i s p
  refine RunsS_tupR ⟨Tryz.f217, rfl, rfl, rfl⟩ rfl rfl fun w hw => ?_
  obtain ⟨⟨m, hm⟩, _⟩ := hw
  refine (sh_strings_Cut ⟨⟨s⟩⟩ ⟨⟨p⟩⟩ m w (by show s.length < _; omega) hm).mono fun e w' ⟨he, n, hw⟩ => ⟨he, ?_⟩
  rw [hw]
  exact ⟨rfl, rfl, rfl, by simp [World.drewN], fun k hk => by simp [World.drewN]⟩
end Go.Proofs.YtamachahlhlhlaaGreatDoor.Eng
set_option linter.unusedVariables false
set_option linter.unusedSimpArgs false
namespace Go.Proofs.YtamachahlhlhlaaGreatDoor.Eng
open Go Go.RowKit
set_option maxRecDepth 100000
def okE (b : Bool) : Int := if b = true then 0 else 5
def s_rdFI : Spec := fun args S => match args, S with
  | [.str t], [] => ⟨t.length ≤ 1048576, .tup [.agg [.int .i64 (frD t).1, .int .i64 (frD t).2], .int .i64 (okE (frR t).isSome)], []⟩
  | _, _ => noSpec
theorem ok_ReadFracI : SpecOk Tryz.prog 116 s_rdFI := by
  intro args S h; unfold s_rdFI at h ⊢; (split at h <;> first | exact False.elim h | skip)
  dsimp only at h ⊢
  rename_i t
  have hl := cut_len t [47]
  have e := fr_same t
  unfold frD
  rw [← e]
  by_cases h0 : t = []
  · have hn : frP t = none := if_neg fun hh => hh.1 h0
    rw [hn]
    have hk : decide (t = []) = true := decide_eq_true h0
    by_cases hb : (Lib.cut t [47]).2.2 = true
    · refine funW tabOk (E := [(217, s_cut), (107, s_nmb), (118, s_frTI)]) ⟨ok_Cut, ok_number, ok_FracTextI, trivial⟩ [] (k := 0) (fn := Tryz.f116) rfl rfl rfl rfl rfl rfl ?_
      (repeat' ((try (conv => whnf)); first | (with_reducible first | refine And.intro ?_ ?_ | refine WX.of ?_) | exact zc | ((with_reducible refine VC.mk ?_); exact zw) | ((with_reducible refine VC.mk ?_); exact h) | ((with_reducible refine VC.mk ?_); exact (Nat.le_trans hl.1 h)) | ((with_reducible refine VC.mk ?_); exact (Nat.le_trans hl.2 h)) | ((with_reducible refine splitT_of ?_ ?_); (focus (simp only [hb, hk, Bool.not_true, Bool.not_false, decide_true, decide_false]; done))) | ((with_reducible refine splitF_of ?_ ?_); (focus (simp only [hb, hk, Bool.not_true, Bool.not_false, decide_true, decide_false]; done))) | (with_reducible first | refine splitT ?_ | refine splitF ?_) | ((with_reducible refine splitM.mk (fun hsm => ?_) (fun hsm => ?_)) <;> (try exact zx)) | ((with_reducible refine splitB.mk (fun h => ?_) (fun h => ?_)) <;> (try simp only [zs, ne_eq] at h) <;> (try simp (disch := omega) only [w64] at h) <;> (try exact zx)) | (with_reducible intro hz; (try exact absurd hz (Nat.succ_ne_zero _)))))
    · have hb : (Lib.cut t [47]).2.2 = false := by simpa using hb
      refine funW tabOk (E := [(217, s_cut), (107, s_nmb), (118, s_frTI)]) ⟨ok_Cut, ok_number, ok_FracTextI, trivial⟩ [] (k := 0) (fn := Tryz.f116) rfl rfl rfl rfl rfl rfl ?_
      (repeat' ((try (conv => whnf)); first | (with_reducible first | refine And.intro ?_ ?_ | refine WX.of ?_) | exact zc | ((with_reducible refine VC.mk ?_); exact zw) | ((with_reducible refine VC.mk ?_); exact h) | ((with_reducible refine VC.mk ?_); exact (Nat.le_trans hl.1 h)) | ((with_reducible refine VC.mk ?_); exact (Nat.le_trans hl.2 h)) | ((with_reducible refine splitT_of ?_ ?_); (focus (simp only [hb, hk, Bool.not_true, Bool.not_false, decide_true, decide_false]; done))) | ((with_reducible refine splitF_of ?_ ?_); (focus (simp only [hb, hk, Bool.not_true, Bool.not_false, decide_true, decide_false]; done))) | (with_reducible first | refine splitT ?_ | refine splitF ?_) | ((with_reducible refine splitM.mk (fun hsm => ?_) (fun hsm => ?_)) <;> (try exact zx)) | ((with_reducible refine splitB.mk (fun h => ?_) (fun h => ?_)) <;> (try simp only [zs, ne_eq] at h) <;> (try simp (disch := omega) only [w64] at h) <;> (try exact zx)) | (with_reducible intro hz; (try exact absurd hz (Nat.succ_ne_zero _)))))
  · have hk : decide (t = []) = false := decide_eq_false h0
    by_cases hT : (if fOk (frO t).1 (frO t).2 = true then frT (frO t).1 (frO t).2 else []) = t
    · have hs : frP t = some (frO t) := if_pos ⟨h0, hT⟩
      rw [hs]
      by_cases hb : (Lib.cut t [47]).2.2 = true
      · have ho : frO t = (nmb (Lib.cut t [47]).1, nmb (Lib.cut t [47]).2.1) := by unfold frO; rw [if_pos hb]
        rw [ho] at hT ⊢
        refine funW tabOk (E := [(217, s_cut), (107, s_nmb), (118, s_frTI)]) ⟨ok_Cut, ok_number, ok_FracTextI, trivial⟩ [] (k := 0) (fn := Tryz.f116) rfl rfl rfl rfl rfl rfl ?_
        (repeat' ((try (conv => whnf)); first | (with_reducible first | refine And.intro ?_ ?_ | refine WX.of ?_) | exact zc | ((with_reducible refine VC.mk ?_); exact zw) | ((with_reducible refine VC.mk ?_); exact h) | ((with_reducible refine VC.mk ?_); exact (Nat.le_trans hl.1 h)) | ((with_reducible refine VC.mk ?_); exact (Nat.le_trans hl.2 h)) | ((with_reducible refine splitT_of ?_ ?_); (focus (simp only [hb, hk, hT, ne_eq, not_true_eq_false, Bool.not_true, Bool.not_false, decide_true, decide_false]; done))) | ((with_reducible refine splitF_of ?_ ?_); (focus (simp only [hb, hk, hT, ne_eq, not_true_eq_false, Bool.not_true, Bool.not_false, decide_true, decide_false]; done))) | (with_reducible first | refine splitT ?_ | refine splitF ?_) | ((with_reducible refine splitM.mk (fun hsm => ?_) (fun hsm => ?_)) <;> (try exact zx)) | ((with_reducible refine splitB.mk (fun h => ?_) (fun h => ?_)) <;> (try simp only [zs, ne_eq] at h) <;> (try simp (disch := omega) only [w64] at h) <;> (try exact zx)) | (with_reducible intro hz; (try exact absurd hz (Nat.succ_ne_zero _)))))
      · have hb : (Lib.cut t [47]).2.2 = false := by simpa using hb
        have ho : frO t = (nmb (Lib.cut t [47]).1, 1) := by unfold frO; rw [hb]; rfl
        rw [ho] at hT ⊢
        refine funW tabOk (E := [(217, s_cut), (107, s_nmb), (118, s_frTI)]) ⟨ok_Cut, ok_number, ok_FracTextI, trivial⟩ [] (k := 0) (fn := Tryz.f116) rfl rfl rfl rfl rfl rfl ?_
        (repeat' ((try (conv => whnf)); first | (with_reducible first | refine And.intro ?_ ?_ | refine WX.of ?_) | exact zc | ((with_reducible refine VC.mk ?_); exact zw) | ((with_reducible refine VC.mk ?_); exact h) | ((with_reducible refine VC.mk ?_); exact (Nat.le_trans hl.1 h)) | ((with_reducible refine VC.mk ?_); exact (Nat.le_trans hl.2 h)) | ((with_reducible refine splitT_of ?_ ?_); (focus (simp only [hb, hk, hT, ne_eq, not_true_eq_false, Bool.not_true, Bool.not_false, decide_true, decide_false]; done))) | ((with_reducible refine splitF_of ?_ ?_); (focus (simp only [hb, hk, hT, ne_eq, not_true_eq_false, Bool.not_true, Bool.not_false, decide_true, decide_false]; done))) | (with_reducible first | refine splitT ?_ | refine splitF ?_) | ((with_reducible refine splitM.mk (fun hsm => ?_) (fun hsm => ?_)) <;> (try exact zx)) | ((with_reducible refine splitB.mk (fun h => ?_) (fun h => ?_)) <;> (try simp only [zs, ne_eq] at h) <;> (try simp (disch := omega) only [w64] at h) <;> (try exact zx)) | (with_reducible intro hz; (try exact absurd hz (Nat.succ_ne_zero _)))))
    · have hs : frP t = none := if_neg fun hh => hT hh.2
      rw [hs]
      by_cases hb : (Lib.cut t [47]).2.2 = true
      · have ho : frO t = (nmb (Lib.cut t [47]).1, nmb (Lib.cut t [47]).2.1) := by unfold frO; rw [if_pos hb]
        rw [ho] at hT
        refine funW tabOk (E := [(217, s_cut), (107, s_nmb), (118, s_frTI)]) ⟨ok_Cut, ok_number, ok_FracTextI, trivial⟩ [] (k := 0) (fn := Tryz.f116) rfl rfl rfl rfl rfl rfl ?_
        (repeat' ((try (conv => whnf)); first | (with_reducible first | refine And.intro ?_ ?_ | refine WX.of ?_) | exact zc | ((with_reducible refine VC.mk ?_); exact zw) | ((with_reducible refine VC.mk ?_); exact h) | ((with_reducible refine VC.mk ?_); exact (Nat.le_trans hl.1 h)) | ((with_reducible refine VC.mk ?_); exact (Nat.le_trans hl.2 h)) | ((with_reducible refine splitT_of ?_ ?_); (focus (simp only [hb, hk, hT, ne_eq, not_false_eq_true, Bool.not_true, Bool.not_false, decide_true, decide_false]; done))) | ((with_reducible refine splitF_of ?_ ?_); (focus (simp only [hb, hk, hT, ne_eq, not_false_eq_true, Bool.not_true, Bool.not_false, decide_true, decide_false]; done))) | (with_reducible first | refine splitT ?_ | refine splitF ?_) | ((with_reducible refine splitM.mk (fun hsm => ?_) (fun hsm => ?_)) <;> (try exact zx)) | ((with_reducible refine splitB.mk (fun h => ?_) (fun h => ?_)) <;> (try simp only [zs, ne_eq] at h) <;> (try simp (disch := omega) only [w64] at h) <;> (try exact zx)) | (with_reducible intro hz; (try exact absurd hz (Nat.succ_ne_zero _)))))
      · have hb : (Lib.cut t [47]).2.2 = false := by simpa using hb
        have ho : frO t = (nmb (Lib.cut t [47]).1, 1) := by unfold frO; rw [hb]; rfl
        rw [ho] at hT
        refine funW tabOk (E := [(217, s_cut), (107, s_nmb), (118, s_frTI)]) ⟨ok_Cut, ok_number, ok_FracTextI, trivial⟩ [] (k := 0) (fn := Tryz.f116) rfl rfl rfl rfl rfl rfl ?_
        (repeat' ((try (conv => whnf)); first | (with_reducible first | refine And.intro ?_ ?_ | refine WX.of ?_) | exact zc | ((with_reducible refine VC.mk ?_); exact zw) | ((with_reducible refine VC.mk ?_); exact h) | ((with_reducible refine VC.mk ?_); exact (Nat.le_trans hl.1 h)) | ((with_reducible refine VC.mk ?_); exact (Nat.le_trans hl.2 h)) | ((with_reducible refine splitT_of ?_ ?_); (focus (simp only [hb, hk, hT, ne_eq, not_false_eq_true, Bool.not_true, Bool.not_false, decide_true, decide_false]; done))) | ((with_reducible refine splitF_of ?_ ?_); (focus (simp only [hb, hk, hT, ne_eq, not_false_eq_true, Bool.not_true, Bool.not_false, decide_true, decide_false]; done))) | (with_reducible first | refine splitT ?_ | refine splitF ?_) | ((with_reducible refine splitM.mk (fun hsm => ?_) (fun hsm => ?_)) <;> (try exact zx)) | ((with_reducible refine splitB.mk (fun h => ?_) (fun h => ?_)) <;> (try simp only [zs, ne_eq] at h) <;> (try simp (disch := omega) only [w64] at h) <;> (try exact zx)) | (with_reducible intro hz; (try exact absurd hz (Nat.succ_ne_zero _)))))
def s_rdSI : Spec := fun args S => match args, S with
  | [.str t], [] => ⟨t.length ≤ 1048576, .tup [.agg [.int .i64 (spnD t).1.1, .int .i64 (spnD t).1.2, .int .i64 (spnD t).2.1, .int .i64 (spnD t).2.2], .int .i64 (okE (spnR t).isSome)], []⟩
  | _, _ => noSpec
theorem okE_ne (b : Bool) : decide (okE b ≠ 0) = !b := by cases b <;> rfl
theorem ok_ReadSpanI : SpecOk Tryz.prog 139 s_rdSI := by
  intro args S h; unfold s_rdSI at h ⊢; (split at h <;> first | exact False.elim h | skip)
  dsimp only at h ⊢
  rename_i t
  have hl := cut_len t [46, 46]
  have e := sp_same t
  unfold spnD
  rw [← e]
  have hO : spQ t = (frD (Lib.cut t [46, 46]).1, frD (Lib.cut t [46, 46]).2.1) := by unfold spQ frD; rw [fr_same, fr_same]
  by_cases h1 : (frR (Lib.cut t [46, 46]).1).isSome = true
  · have k1 : decide (okE (frR (Lib.cut t [46, 46]).1).isSome ≠ 0) = false := by rw [okE_ne, h1]; rfl
    by_cases h2 : (frR (Lib.cut t [46, 46]).2.1).isSome = true
    · have k2 : decide (okE (frR (Lib.cut t [46, 46]).2.1).isSome ≠ 0) = false := by rw [okE_ne, h2]; rfl
      by_cases hT : (if spOk (spQ t).1.1 (spQ t).1.2 (spQ t).2.1 (spQ t).2.2 = true then spT (spQ t).1.1 (spQ t).1.2 (spQ t).2.1 (spQ t).2.2 else []) = t
      · have hs : spnP t = some (spQ t) := if_pos ⟨⟨by rw [fr_same]; exact h1, by rw [fr_same]; exact h2⟩, hT⟩
        rw [hs]
        rw [hO] at hT ⊢
        refine funW tabOk (E := [(217, s_cut), (116, s_rdFI), (140, s_spTI)]) ⟨ok_Cut, ok_ReadFracI, ok_SpanTextI, trivial⟩ [] (k := 0) (fn := Tryz.f139) rfl rfl rfl rfl rfl rfl ?_
        (repeat' ((try (conv => whnf)); first | (with_reducible first | refine And.intro ?_ ?_ | refine WX.of ?_) | exact zc | ((with_reducible refine VC.mk ?_); exact zw) | ((with_reducible refine VC.mk ?_); exact h) | ((with_reducible refine VC.mk ?_); exact (Nat.le_trans hl.1 h)) | ((with_reducible refine VC.mk ?_); exact (Nat.le_trans hl.2 h)) | ((with_reducible refine splitT_of ?_ ?_); (focus (simp only [k1, k2, hT, ne_eq, not_true_eq_false, Bool.not_true, Bool.not_false, decide_true, decide_false]; done))) | ((with_reducible refine splitF_of ?_ ?_); (focus (simp only [k1, k2, hT, ne_eq, not_true_eq_false, Bool.not_true, Bool.not_false, decide_true, decide_false]; done))) | (with_reducible first | refine splitT ?_ | refine splitF ?_) | ((with_reducible refine splitM.mk (fun hsm => ?_) (fun hsm => ?_)) <;> (try exact zx)) | ((with_reducible refine splitB.mk (fun h => ?_) (fun h => ?_)) <;> (try simp only [zs, ne_eq] at h) <;> (try simp (disch := omega) only [w64] at h) <;> (try exact zx)) | (with_reducible intro hz; (try exact absurd hz (Nat.succ_ne_zero _)))))
      · have hs : spnP t = none := if_neg fun hh => hT hh.2
        rw [hs]
        rw [hO] at hT
        refine funW tabOk (E := [(217, s_cut), (116, s_rdFI), (140, s_spTI)]) ⟨ok_Cut, ok_ReadFracI, ok_SpanTextI, trivial⟩ [] (k := 0) (fn := Tryz.f139) rfl rfl rfl rfl rfl rfl ?_
        (repeat' ((try (conv => whnf)); first | (with_reducible first | refine And.intro ?_ ?_ | refine WX.of ?_) | exact zc | ((with_reducible refine VC.mk ?_); exact zw) | ((with_reducible refine VC.mk ?_); exact h) | ((with_reducible refine VC.mk ?_); exact (Nat.le_trans hl.1 h)) | ((with_reducible refine VC.mk ?_); exact (Nat.le_trans hl.2 h)) | ((with_reducible refine splitT_of ?_ ?_); (focus (simp only [k1, k2, hT, ne_eq, not_false_eq_true, Bool.not_true, Bool.not_false, decide_true, decide_false]; done))) | ((with_reducible refine splitF_of ?_ ?_); (focus (simp only [k1, k2, hT, ne_eq, not_false_eq_true, Bool.not_true, Bool.not_false, decide_true, decide_false]; done))) | (with_reducible first | refine splitT ?_ | refine splitF ?_) | ((with_reducible refine splitM.mk (fun hsm => ?_) (fun hsm => ?_)) <;> (try exact zx)) | ((with_reducible refine splitB.mk (fun h => ?_) (fun h => ?_)) <;> (try simp only [zs, ne_eq] at h) <;> (try simp (disch := omega) only [w64] at h) <;> (try exact zx)) | (with_reducible intro hz; (try exact absurd hz (Nat.succ_ne_zero _)))))
    · have k2 : decide (okE (frR (Lib.cut t [46, 46]).2.1).isSome ≠ 0) = true := by rw [okE_ne]; simpa using h2
      have hs : spnP t = none := if_neg fun hh => h2 (by rw [← fr_same]; exact hh.1.2)
      rw [hs]
      refine funW tabOk (E := [(217, s_cut), (116, s_rdFI), (140, s_spTI)]) ⟨ok_Cut, ok_ReadFracI, ok_SpanTextI, trivial⟩ [] (k := 0) (fn := Tryz.f139) rfl rfl rfl rfl rfl rfl ?_
      (repeat' ((try (conv => whnf)); first | (with_reducible first | refine And.intro ?_ ?_ | refine WX.of ?_) | exact zc | ((with_reducible refine VC.mk ?_); exact zw) | ((with_reducible refine VC.mk ?_); exact h) | ((with_reducible refine VC.mk ?_); exact (Nat.le_trans hl.1 h)) | ((with_reducible refine VC.mk ?_); exact (Nat.le_trans hl.2 h)) | ((with_reducible refine splitT_of ?_ ?_); (focus (simp only [k1, k2, Bool.not_true, Bool.not_false, decide_true, decide_false]; done))) | ((with_reducible refine splitF_of ?_ ?_); (focus (simp only [k1, k2, Bool.not_true, Bool.not_false, decide_true, decide_false]; done))) | (with_reducible first | refine splitT ?_ | refine splitF ?_) | ((with_reducible refine splitM.mk (fun hsm => ?_) (fun hsm => ?_)) <;> (try exact zx)) | ((with_reducible refine splitB.mk (fun h => ?_) (fun h => ?_)) <;> (try simp only [zs, ne_eq] at h) <;> (try simp (disch := omega) only [w64] at h) <;> (try exact zx)) | (with_reducible intro hz; (try exact absurd hz (Nat.succ_ne_zero _)))))
  · have k1 : decide (okE (frR (Lib.cut t [46, 46]).1).isSome ≠ 0) = true := by rw [okE_ne]; simpa using h1
    have hs : spnP t = none := if_neg fun hh => h1 (by rw [← fr_same]; exact hh.1.1)
    rw [hs]
    refine funW tabOk (E := [(217, s_cut), (116, s_rdFI), (140, s_spTI)]) ⟨ok_Cut, ok_ReadFracI, ok_SpanTextI, trivial⟩ [] (k := 0) (fn := Tryz.f139) rfl rfl rfl rfl rfl rfl ?_
    (repeat' ((try (conv => whnf)); first | (with_reducible first | refine And.intro ?_ ?_ | refine WX.of ?_) | exact zc | ((with_reducible refine VC.mk ?_); exact zw) | ((with_reducible refine VC.mk ?_); exact h) | ((with_reducible refine VC.mk ?_); exact (Nat.le_trans hl.1 h)) | ((with_reducible refine VC.mk ?_); exact (Nat.le_trans hl.2 h)) | ((with_reducible refine splitT_of ?_ ?_); (focus (simp only [k1, Bool.not_true, Bool.not_false, decide_true, decide_false]; done))) | ((with_reducible refine splitF_of ?_ ?_); (focus (simp only [k1, Bool.not_true, Bool.not_false, decide_true, decide_false]; done))) | (with_reducible first | refine splitT ?_ | refine splitF ?_) | ((with_reducible refine splitM.mk (fun hsm => ?_) (fun hsm => ?_)) <;> (try exact zx)) | ((with_reducible refine splitB.mk (fun h => ?_) (fun h => ?_)) <;> (try simp only [zs, ne_eq] at h) <;> (try simp (disch := omega) only [w64] at h) <;> (try exact zx)) | (with_reducible intro hz; (try exact absurd hz (Nat.succ_ne_zero _)))))
end Go.Proofs.YtamachahlhlhlaaGreatDoor.Eng
set_option linter.unusedVariables false
set_option linter.unusedSimpArgs false
namespace Go.Proofs.YtamachahlhlhlaaGreatDoor.Eng
open Go Go.RowKit
set_option maxRecDepth 100000
def s_rc1 : Spec := fun args S => match args, S with
  | [.agg [.str nm, .int .i64 fr, .int .i64 p, .int .i64 q, .int .i64 p', .int .i64 q', .int .i64 dp, .int .i64 dq, .int .i64 md, .int .i64 gd], .ptr 0 0 0], [.box [.sl 1 0 m x] true false, .arr .str W 1 wr] => ⟨1 < m ∧ m ≤ W.length, .bool (decide (nm = wR W 1)), [.box [.sl 1 0 m x] true false, .arr .str W 1 wr]⟩
  | _, _ => noSpec
theorem ok_ReadChain1 : SpecOk Tryz.prog 155 s_rc1 := by
  intro args S h; unfold s_rc1 at h ⊢; (split at h <;> first | exact False.elim h | skip)
  dsimp only at h ⊢
  rename_i nm fr p q p' q' dp dq md gd m x W wr
  have h1 := wR_at (W := W) (i := 1) (by omega)
  refine funW tabOk (E := []) trivial [] (k := 2) (fn := Tryz.f155) rfl rfl rfl rfl rfl rfl ?_
  (repeat' ((try (conv => whnf)); first | (with_reducible first | refine And.intro ?_ ?_ | refine WX.of ?_) | exact zc | ((with_reducible refine VC.mk ?_); exact zw) | refine atL_w h1 (by decide) ?_ | (with_reducible first | refine splitT ?_ | refine splitF ?_) | ((with_reducible refine splitM.mk (fun hsm => ?_) (fun hsm => ?_)) <;> (try exact zx)) | ((with_reducible refine splitB.mk (fun h => ?_) (fun h => ?_)) <;> (try simp only [zs, ne_eq] at h) <;> (try simp (disch := omega) only [w64] at h) <;> (try exact zx)) | (with_reducible intro hz; (try exact absurd hz (Nat.succ_ne_zero _)))))
def s_idxRc (g : Nat) : Spec := fun args S => match args, S with
  | [.sl 0 q0 n0 x0, .fn g' [.ptr 1 0 0]], [.arr (.prod .str (.prod (.int .i64) (.prod (.prod (.prod (.int .i64) (.int .i64)) (.prod (.int .i64) (.int .i64))) (.prod (.prod (.int .i64) (.int .i64)) (.prod (.int .i64) (.int .i64)))))) l0 10 wr0, .box [.sl 2 0 m x] true false, .arr .str W 1 wr] => ⟨g' = g ∧ (q0 + n0 ≤ l0.length ∧ n0 ≤ 4611686018427387904) ∧ 1 < m ∧ m ≤ W.length, .int .i64 (findI (fun a : StT => decide (a.1 = wR W 1)) (seg l0 q0 n0)), [.arr (.prod .str (.prod (.int .i64) (.prod (.prod (.prod (.int .i64) (.int .i64)) (.prod (.int .i64) (.int .i64))) (.prod (.prod (.int .i64) (.int .i64)) (.prod (.int .i64) (.int .i64)))))) l0 10 wr0, .box [.sl 2 0 m x] true false, .arr .str W 1 wr]⟩
  | _, _ => noSpec
theorem ok_idxRc : SpecOk Tryz.prog 154 (s_idxRc 155) := by
  intro args S h; unfold s_idxRc at h ⊢; (split at h <;> first | exact False.elim h | skip)
  dsimp only at h ⊢
  rename_i q0 n0 x0 g l0 wr0 m x W wr
  obtain ⟨rfl, ⟨h1, h2⟩, hcp⟩ := h
  have hL := seg_len h1
  refine funW tabOk (E := [(155, s_rc1)]) ⟨ok_ReadChain1, trivial⟩ [] (k := 3) (fn := Tryz.f154) rfl rfl rfl rfl rfl rfl ?_
  (repeat' ((try (conv => whnf)); first | (with_reducible first | refine And.intro ?_ ?_ | refine WX.of ?_) | exact zc | ((with_reducible refine VC.mk ?_); exact zw) | (with_reducible first | refine splitT ?_ | refine splitF ?_) | ((with_reducible refine splitM.mk (fun hsm => ?_) (fun hsm => ?_)) <;> (try exact zx)) | ((with_reducible refine splitB.mk (fun h => ?_) (fun h => ?_)) <;> (try simp only [zs, ne_eq] at h) <;> (try simp (disch := omega) only [w64] at h) <;> (try exact zx)) | (with_reducible intro hz; (try exact absurd hz (Nat.succ_ne_zero _)))))
  refine loopW tabOk (E := [(155, s_rc1)]) ⟨ok_ReadChain1, trivial⟩ [] (σ := Nat) (fun i => [(0, .sl 0 q0 n0 x0), (1, .fn 155 [.ptr 1 0 0]), (7, .int .i64 n0), (8, .int .i64 i)]) (fun i => [.arr (.prod .str (.prod (.int .i64) (.prod (.prod (.prod (.int .i64) (.int .i64)) (.prod (.int .i64) (.int .i64))) (.prod (.prod (.int .i64) (.int .i64)) (.prod (.int .i64) (.int .i64)))))) l0 10 wr0, .box [.sl 2 0 m x] true false, .arr .str W 1 wr]) (fun i => n0 - i) (fun i => i ≤ n0 ∧ ∀ (j : Nat) a, j < i → (seg l0 q0 n0)[j]? = some a → (fun a : StT => decide (a.1 = wR W 1)) a = false) 0 ⟨Nat.zero_le _, fun j a hj => by omega⟩ ?_ ?_
  · (repeat' ((try (conv => whnf)); first | (with_reducible first | refine And.intro ?_ ?_ | refine WX.of ?_) | exact zc | ((with_reducible refine VC.mk ?_); exact zw) | (with_reducible first | refine splitT ?_ | refine splitF ?_) | ((with_reducible refine splitM.mk (fun hsm => ?_) (fun hsm => ?_)) <;> (try exact zx)) | ((with_reducible refine splitB.mk (fun h => ?_) (fun h => ?_)) <;> (try simp only [zs, ne_eq] at h) <;> (try simp (disch := omega) only [w64] at h) <;> (try exact zx)) | (with_reducible intro hz; (try exact absurd hz (Nat.succ_ne_zero _)))))
  · intro ii ⟨hi, hp⟩
    by_cases hlt : ii < n0
    · obtain ⟨⟨nm, fr, ⟨⟨p, q⟩, p', q'⟩, ⟨dp, dq⟩, md, gd⟩, ha⟩ := get_some (l := seg l0 q0 n0) (i := ii) (by omega)
      (repeat' ((try (conv => whnf)); first | (with_reducible first | refine And.intro ?_ ?_ | refine WX.of ?_) | exact zc | ((with_reducible refine VC.mk ?_); exact zw) | refine atL_i ha ?_ | ((with_reducible refine VC.mk ?_); exact hcp) | (with_reducible first | refine splitT ?_ | refine splitF ?_) | ((with_reducible refine splitM.mk (fun hsm => ?_) (fun hsm => ?_)) <;> (try exact zx)) | ((with_reducible refine splitB.mk (fun h => ?_) (fun h => ?_)) <;> (try simp only [zs, ne_eq] at h) <;> (try simp (disch := omega) only [w64] at h) <;> (try exact zx)) | (with_reducible intro hz; (try exact absurd hz (Nat.succ_ne_zero _)))))
      · exact ⟨by rw [findI_some ha (by first | (simpa [decide_eq_true_eq] using h; done) | (simp [decide_eq_true_eq] at h ⊢; omega)) hp]⟩
      · refine ⟨ii + 1, by omega, ⟨hlt, upto_step ha (by first | (simpa [decide_eq_true_eq] using h; done) | (simp [decide_eq_true_eq] at h ⊢; omega)) hp⟩, ?_⟩
        (repeat' ((try (conv => whnf)); first | (with_reducible first | refine And.intro ?_ ?_ | refine WX.of ?_) | exact zc | ((with_reducible refine VC.mk ?_); exact zw) | (with_reducible first | refine splitT ?_ | refine splitF ?_) | ((with_reducible refine splitM.mk (fun hsm => ?_) (fun hsm => ?_)) <;> (try exact zx)) | ((with_reducible refine splitB.mk (fun h => ?_) (fun h => ?_)) <;> (try simp only [zs, ne_eq] at h) <;> (try simp (disch := omega) only [w64] at h) <;> (try exact zx)) | (with_reducible intro hz; (try exact absurd hz (Nat.succ_ne_zero _)))))
    · (repeat' ((try (conv => whnf)); first | (with_reducible first | refine And.intro ?_ ?_ | refine WX.of ?_) | exact zc | ((with_reducible refine VC.mk ?_); exact zw) | (with_reducible first | refine splitT ?_ | refine splitF ?_) | ((with_reducible refine splitM.mk (fun hsm => ?_) (fun hsm => ?_)) <;> (try exact zx)) | ((with_reducible refine splitB.mk (fun h => ?_) (fun h => ?_)) <;> (try simp only [zs, ne_eq] at h) <;> (try simp (disch := omega) only [w64] at h) <;> (try exact zx)) | (with_reducible intro hz; (try exact absurd hz (Nat.succ_ne_zero _)))))
      exact ⟨by rw [findI_none fun j a hj => hp j a (by have := (List.getElem?_eq_some_iff.1 hj).1; omega) hj]⟩
theorem chFP_inv {A : List StT} {ln : List UInt8} {a : StT} (h : chFP A ln = some a) : (splL 32 ln).length = 6 ∧ a = chW (frmP A (wR (splL 32 ln) 1)) nmb frD spnD (splL 32 ln) := by
  unfold chFP at h
  split at h
  · rename_i h6
    injection h with h
    exact ⟨h6, h.symm⟩
  · cases h
def s_chI1 (R : List StT) : Spec := fun args S => match args, S with
  | [.str t], [] => ⟨(t.length ≤ 1048576 ∧ t ≠ []) ∧ chtP t = some R, .tup [.sl 0 0 R.length 0, .int .i64 0], [.arr (.prod .str (.prod (.int .i64) (.prod (.prod (.prod (.int .i64) (.int .i64)) (.prod (.int .i64) (.int .i64))) (.prod (.prod (.int .i64) (.int .i64)) (.prod (.int .i64) (.int .i64)))))) R 10 true]⟩
  | _, _ => noSpec
set_option maxHeartbeats 3200000 in
theorem ok_ReadChainI1 (R : List StT) : SpecOk Tryz.prog 53 (s_chI1 R) := by
  intro args S h; unfold s_chI1 at h ⊢; (split at h <;> first | exact False.elim h | skip)
  dsimp only at h ⊢
  rename_i t
  obtain ⟨⟨h1, h2⟩, hR⟩ := h
  obtain ⟨hB, hT⟩ := chtP_to hR
  unfold chtP at hR
  by_cases hc : (splL 10 t).getLast? = some [] ∧ (splL 10 t).length ≤ 31
  rotate_left 1
  · rw [if_neg hc] at hR; cases hR
  rw [if_pos hc] at hR
  have hO : foL chFP [] (splL 10 t).dropLast = some R := by
    cases e : foL chFP [] (splL 10 t).dropLast with
    | none => rw [e] at hR; cases hR
    | some R' =>
      rw [e] at hR
      simp only at hR
      by_cases h9 : chB R' = true ∧ chT R' R' = t
      · rw [if_pos h9] at hR; exact hR
      · rw [if_neg h9] at hR; cases hR
  have hm := (foL_len hO).1
  rw [List.length_dropLast, List.length_nil, Nat.zero_add] at hm
  have hK : decide ((splL 10 t).getLast? = some []) = true := decide_eq_true hc.1
  have hsR : seg R 0 R.length = R := seg_full rfl
  refine funW tabOk (E := [(104, s_lines), (105, s_spl), (107, s_nmb), (139, s_rdSI), (116, s_rdFI), (154, (s_idxRc 155)), (57, s_l05Ok), (54, s_chT)]) ⟨ok_lines, ok_Split, ok_number, ok_ReadSpanI, ok_ReadFracI, ok_idxRc, ok_ValidChainI, ok_ChainTextI, trivial⟩ [(11, [(0, 1), (2, 1), (6, 0), (8, 0), (10, 0), (12, 0), (15, 0)])] (k := 0) (fn := Tryz.f53) rfl rfl rfl rfl rfl rfl ?_
  (repeat' ((try (conv => whnf)); first | (with_reducible first | refine And.intro ?_ ?_ | refine WX.of ?_) | exact zc | ((with_reducible refine VC.mk ?_); exact zw) | ((with_reducible refine VC.mk ?_); exact ⟨h1, h2⟩) | ((with_reducible refine splitT_of ?_ ?_); (focus (simp only [hK, Bool.not_true, Bool.not_true, Bool.not_false, decide_true, decide_false]; done))) | ((with_reducible refine splitF_of ?_ ?_); (focus (simp only [hK, Bool.not_true, Bool.not_true, Bool.not_false, decide_true, decide_false]; done))) | (with_reducible first | refine splitT ?_ | refine splitF ?_) | ((with_reducible refine splitM.mk (fun hsm => ?_) (fun hsm => ?_)) <;> (try exact zx)) | ((with_reducible refine splitB.mk (fun h => ?_) (fun h => ?_)) <;> (try simp only [zs, ne_eq] at h) <;> (try simp (disch := omega) only [w64] at h) <;> (try exact zx)) | (with_reducible intro hz; (try exact absurd hz (Nat.succ_ne_zero _)))))
  refine loopW tabOk (E := [(104, s_lines), (105, s_spl), (107, s_nmb), (139, s_rdSI), (116, s_rdFI), (154, (s_idxRc 155)), (57, s_l05Ok), (54, s_chT)]) ⟨ok_lines, ok_Split, ok_number, ok_ReadSpanI, ok_ReadFracI, ok_idxRc, ok_ValidChainI, ok_ChainTextI, trivial⟩ [(11, [(0, 1), (2, 1), (6, 0), (8, 0), (10, 0), (12, 0), (15, 0)])] (σ := Nat) (fun i => [(0, .str t), (6, .sl 1 0 i 0), (24, .sl 0 0 ((splL 10 t).length - 1) 1), (25, .int .i64 ((splL 10 t).length - 1 : Nat)), (26, .int .i64 i)]) (fun i => [.arr .str (splL 10 t) 1 true, .arr (.prod .str (.prod (.int .i64) (.prod (.prod (.prod (.int .i64) (.int .i64)) (.prod (.int .i64) (.int .i64))) (.prod (.prod (.int .i64) (.int .i64)) (.prod (.int .i64) (.int .i64)))))) (R.take i) 10 true]) (fun i => (splL 10 t).length - 1 - i) (fun i => i ≤ (splL 10 t).length - 1) 0 (Nat.zero_le _) ?_ ?_
  · (repeat' ((try (conv => whnf)); first | (with_reducible first | refine And.intro ?_ ?_ | refine WX.of ?_) | exact zc | ((with_reducible refine VC.mk ?_); exact zw) | (with_reducible first | refine splitT ?_ | refine splitF ?_) | ((with_reducible refine splitM.mk (fun hsm => ?_) (fun hsm => ?_)) <;> (try exact zx)) | ((with_reducible refine splitB.mk (fun h => ?_) (fun h => ?_)) <;> (try simp only [zs, ne_eq] at h) <;> (try simp (disch := omega) only [w64] at h) <;> (try exact zx)) | (with_reducible intro hz; (try exact absurd hz (Nat.succ_ne_zero _)))))
  · intro i hi
    by_cases hlt : i < (splL 10 t).length - 1
    · obtain ⟨ln, hln⟩ := get_some (l := splL 10 t) (i := i) (by omega)
      have hld : (splL 10 t).dropLast[i]? = some ln := by rw [List.getElem?_dropLast, if_pos hlt]; exact hln
      obtain ⟨a, ha, hf⟩ := foL_at hO hld
      obtain ⟨hWn, rfl⟩ := chFP_inv hf
      have hl1 := splL_sub 10 t ln (List.mem_of_getElem? hln)
      have hat : ∀ i, i < 6 → (splL 32 ln)[i]? = some (wR (splL 32 ln) i) := fun i hi => wR_at (by omega)
      have hsz : ∀ i, i < 6 → (wR (splL 32 ln) i).length ≤ 1048576 := fun i hi => Nat.le_trans (wR_len (by omega)) (by omega)
      have a0 := hat 0 (by decide)
      have a2 := hat 2 (by decide)
      have a3 := hat 3 (by decide)
      have a4 := hat 4 (by decide)
      have a5 := hat 5 (by decide)
      have z2 := hsz 2 (by decide)
      have z3 := hsz 3 (by decide)
      have z4 := hsz 4 (by decide)
      have z5 := hsz 5 (by decide)
      have hWl : decide (((splL 32 ln).length : Int) ≠ 6) = false := by rw [hWn]; rfl
      have hlen : (R.take i).length = i := by rw [List.length_take]; omega
      have hsg : seg (R.take i) 0 i = R.take i := seg_full hlen
      have hidx : (0 + i ≤ (R.take i).length ∧ i ≤ 4611686018427387904) ∧ 1 < (splL 32 ln).length ∧ (splL 32 ln).length ≤ (splL 32 ln).length := ⟨⟨by omega, by omega⟩, by omega, Nat.le_refl _⟩
      (repeat' ((try (conv => whnf)); first | (with_reducible first | refine And.intro ?_ ?_ | refine WX.of ?_) | exact zc | ((with_reducible refine VC.mk ?_); exact zw) | with_reducible refine atL_0 hln ?_ | refine atL_w a0 (by decide) ?_ | refine atL_w a2 (by decide) ?_ | refine atL_w a3 (by decide) ?_ | refine atL_w a4 (by decide) ?_ | refine atL_w a5 (by decide) ?_ | ((with_reducible refine splitT_of ?_ ?_); (focus (simp only [hWl, Bool.not_true, Bool.not_false, decide_true, decide_false]; done))) | ((with_reducible refine splitF_of ?_ ?_); (focus (simp only [hWl, Bool.not_true, Bool.not_false, decide_true, decide_false]; done))) | ((with_reducible refine VC.mk ?_); exact ⟨rfl, hidx⟩) | ((with_reducible refine VC.mk ?_); exact z2) | ((with_reducible refine VC.mk ?_); exact z3) | ((with_reducible refine VC.mk ?_); exact z4) | ((with_reducible refine VC.mk ?_); exact z5) | (with_reducible first | refine splitT ?_ | refine splitF ?_) | ((with_reducible refine splitM.mk (fun hsm => ?_) (fun hsm => ?_)) <;> (try exact zx)) | ((with_reducible refine splitB.mk (fun h => ?_) (fun h => ?_)) <;> (try simp only [zs, ne_eq] at h) <;> (try simp (disch := omega) only [w64] at h) <;> (try exact zx)) | (with_reducible intro hz; (try exact absurd hz (Nat.succ_ne_zero _)))))
      have ha2 : R[i]? = some (wR (splL 32 ln) 0, findI (fun a : StT => decide (a.1 = wR (splL 32 ln) 1)) (seg (R.take i) 0 i), spnD (wR (splL 32 ln) 2), frD (wR (splL 32 ln) 3), nmb (wR (splL 32 ln) 4), nmb (wR (splL 32 ln) 5)) := by rw [hsg]; exact ha
      refine ⟨i + 1, by omega, by omega, ?_⟩
      (repeat' ((try (conv => whnf)); first | (with_reducible first | refine And.intro ?_ ?_ | refine WX.of ?_) | exact zc | ((with_reducible refine VC.mk ?_); exact zw) | (with_reducible first | refine splitT ?_ | refine splitF ?_) | ((with_reducible refine splitM.mk (fun hsm => ?_) (fun hsm => ?_)) <;> (try exact zx)) | ((with_reducible refine splitB.mk (fun h => ?_) (fun h => ?_)) <;> (try simp only [zs, ne_eq] at h) <;> (try simp (disch := omega) only [w64] at h) <;> (try exact zx)) | (with_reducible intro hz; (try exact absurd hz (Nat.succ_ne_zero _)))))
      all_goals exact ⟨app_take ha2⟩
    · obtain rfl : i = (splL 10 t).length - 1 := by omega
      have htk : R.take ((splL 10 t).length - 1) = R := List.take_of_length_le (by omega)
      have hsg : seg R 0 ((splL 10 t).length - 1) = R := seg_full hm
      have hB2 : chB (seg R 0 ((splL 10 t).length - 1)) = true := by rw [hsg]; exact hB
      have hT2 : (if chB (seg R 0 ((splL 10 t).length - 1)) = true then chT (seg R 0 ((splL 10 t).length - 1)) (seg R 0 ((splL 10 t).length - 1)) else []) = t := by rw [if_pos hB2, hsg]; exact hT
      have hnm : ∀ (j : Nat) (a : StT), R[j]? = some a → a.1.length < 9223372036854775808 := fun j a ha => by have := wd12 (ch_ok hB ha).nm; omega
      rw [htk]
      (repeat' ((try (conv => whnf)); first | (with_reducible first | refine And.intro ?_ ?_ | refine WX.of ?_) | exact zc | ((with_reducible refine VC.mk ?_); exact zw) | ((with_reducible refine VC.mk ?_); exact ⟨⟨by omega, by omega⟩, hnm⟩) | ((with_reducible refine splitT_of ?_ ?_); (focus (simp only [hB2, Bool.not_true, Bool.not_true, Bool.not_false, decide_true, decide_false]; done))) | ((with_reducible refine splitF_of ?_ ?_); (focus (simp only [hB2, Bool.not_true, Bool.not_true, Bool.not_false, decide_true, decide_false]; done))) | ((with_reducible refine splitT_of ?_ ?_); (focus (simp only [hT2, ne_eq, eq_self, not_true_eq_false, decide_false, Bool.not_true, Bool.not_false, decide_true, decide_false]; done))) | ((with_reducible refine splitF_of ?_ ?_); (focus (simp only [hT2, ne_eq, eq_self, not_true_eq_false, decide_false, Bool.not_true, Bool.not_false, decide_true, decide_false]; done))) | (with_reducible first | refine splitT ?_ | refine splitF ?_) | ((with_reducible refine splitM.mk (fun hsm => ?_) (fun hsm => ?_)) <;> (try exact zx)) | ((with_reducible refine splitB.mk (fun h => ?_) (fun h => ?_)) <;> (try simp only [zs, ne_eq] at h) <;> (try simp (disch := omega) only [w64] at h) <;> (try exact zx)) | (with_reducible intro hz; (try exact absurd hz (Nat.succ_ne_zero _)))))
      exact ⟨by rw [hm]⟩
def s_chIE : Spec := fun args S => match args, S with
  | [.str t], [] => ⟨t = [], .tup [.sl 0 0 0 0, .int .i64 0], [.arr (.prod .str (.prod (.int .i64) (.prod (.prod (.prod (.int .i64) (.int .i64)) (.prod (.int .i64) (.int .i64))) (.prod (.prod (.int .i64) (.int .i64)) (.prod (.int .i64) (.int .i64)))))) [] 10 true]⟩
  | _, _ => noSpec
theorem ok_ReadChainIE : SpecOk Tryz.prog 53 s_chIE := by
  intro args S h; unfold s_chIE at h ⊢; (split at h <;> first | exact False.elim h | skip)
  dsimp only at h ⊢
  subst h
  refine funW tabOk (E := [(104, s_linesE), (105, s_spl), (107, s_nmb), (139, s_rdSI), (116, s_rdFI), (154, (s_idxRc 155)), (57, s_l05Ok), (54, s_chT)]) ⟨ok_linesE, ok_Split, ok_number, ok_ReadSpanI, ok_ReadFracI, ok_idxRc, ok_ValidChainI, ok_ChainTextI, trivial⟩ [(11, [(0, 1), (2, 1), (6, 0), (8, 0), (10, 0), (12, 0), (15, 0)])] (k := 0) (fn := Tryz.f53) rfl rfl rfl rfl rfl rfl ?_
  (repeat' ((try (conv => whnf)); first | (with_reducible first | refine And.intro ?_ ?_ | refine WX.of ?_) | exact zc | ((with_reducible refine VC.mk ?_); exact zw) | (with_reducible first | refine splitT ?_ | refine splitF ?_) | ((with_reducible refine splitM.mk (fun hsm => ?_) (fun hsm => ?_)) <;> (try exact zx)) | ((with_reducible refine splitB.mk (fun h => ?_) (fun h => ?_)) <;> (try simp only [zs, ne_eq] at h) <;> (try simp (disch := omega) only [w64] at h) <;> (try exact zx)) | (with_reducible intro hz; (try exact absurd hz (Nat.succ_ne_zero _)))))
  have h0 : (0 + 0 ≤ ([] : List StT).length ∧ 0 ≤ 1048576) ∧ ∀ (j : Nat) (a : StT), ([] : List StT)[j]? = some a → a.1.length < 9223372036854775808 := ⟨⟨Nat.le_refl 0, by decide⟩, fun j a ha => by simp at ha⟩
  have hv : chB (seg ([] : List StT) 0 0) = true := by decide
  have hrt : (if chB (seg ([] : List StT) 0 0) = true then chT (seg ([] : List StT) 0 0) (seg ([] : List StT) 0 0) else []) = [] := rfl
  refine loop1 tabOk (E := [(104, s_linesE), (105, s_spl), (107, s_nmb), (139, s_rdSI), (116, s_rdFI), (154, (s_idxRc 155)), (57, s_l05Ok), (54, s_chT)]) ⟨ok_linesE, ok_Split, ok_number, ok_ReadSpanI, ok_ReadFracI, ok_idxRc, ok_ValidChainI, ok_ChainTextI, trivial⟩ [(11, [(0, 1), (2, 1), (6, 0), (8, 0), (10, 0), (12, 0), (15, 0)])] ?_
  (repeat' ((try (conv => whnf)); first | (with_reducible first | refine And.intro ?_ ?_ | refine WX.of ?_) | exact zc | ((with_reducible refine VC.mk ?_); exact zw) | ((with_reducible refine VC.mk ?_); exact h0) | ((with_reducible refine splitT_of ?_ ?_); (focus (simp only [hv, Bool.not_true, Bool.not_true, Bool.not_false, decide_true, decide_false]; done))) | ((with_reducible refine splitF_of ?_ ?_); (focus (simp only [hv, Bool.not_true, Bool.not_true, Bool.not_false, decide_true, decide_false]; done))) | ((with_reducible refine splitT_of ?_ ?_); (focus (simp only [hrt, ne_eq, eq_self, not_true_eq_false, decide_false, Bool.not_true, Bool.not_false, decide_true, decide_false]; done))) | ((with_reducible refine splitF_of ?_ ?_); (focus (simp only [hrt, ne_eq, eq_self, not_true_eq_false, decide_false, Bool.not_true, Bool.not_false, decide_true, decide_false]; done))) | (with_reducible first | refine splitT ?_ | refine splitF ?_) | ((with_reducible refine splitM.mk (fun hsm => ?_) (fun hsm => ?_)) <;> (try exact zx)) | ((with_reducible refine splitB.mk (fun h => ?_) (fun h => ?_)) <;> (try simp only [zs, ne_eq] at h) <;> (try simp (disch := omega) only [w64] at h) <;> (try exact zx)) | (with_reducible intro hz; (try exact absurd hz (Nat.succ_ne_zero _)))))
def s_chI0 : Spec := fun args S => match args, S with
  | [.str t], [] => ⟨(t.length ≤ 1048576 ∧ t ≠ []) ∧ chtP t = none, .tup [.nils, .int .i64 5], []⟩
  | _, _ => noSpec
set_option maxHeartbeats 3200000 in
theorem ok_ReadChainI0 : SpecOk Tryz.prog 53 s_chI0 := by
  intro args S h; unfold s_chI0 at h ⊢; (split at h <;> first | exact False.elim h | skip)
  dsimp only at h ⊢
  rename_i t
  obtain ⟨⟨h1, h2⟩, hR⟩ := h
  unfold chtP at hR
  by_cases hl : (splL 10 t).getLast? = some []
  rotate_left 1
  · have hK : decide ((splL 10 t).getLast? = some []) = false := decide_eq_false hl
    refine funW tabOk (E := [(104, s_lines), (105, s_spl), (107, s_nmb), (139, s_rdSI), (116, s_rdFI), (154, (s_idxRc 155)), (57, s_l05Ok), (54, s_chT)]) ⟨ok_lines, ok_Split, ok_number, ok_ReadSpanI, ok_ReadFracI, ok_idxRc, ok_ValidChainI, ok_ChainTextI, trivial⟩ [(11, [(0, 1), (2, 1), (6, 0), (8, 0), (10, 0), (12, 0), (15, 0)])] (k := 0) (fn := Tryz.f53) rfl rfl rfl rfl rfl rfl ?_
    (repeat' ((try (conv => whnf)); first | (with_reducible first | refine And.intro ?_ ?_ | refine WX.of ?_) | exact zc | ((with_reducible refine VC.mk ?_); exact zw) | ((with_reducible refine VC.mk ?_); exact ⟨h1, h2⟩) | ((with_reducible refine splitT_of ?_ ?_); (focus (simp only [hK, Bool.not_false, Bool.not_true, Bool.not_false, decide_true, decide_false]; done))) | ((with_reducible refine splitF_of ?_ ?_); (focus (simp only [hK, Bool.not_false, Bool.not_true, Bool.not_false, decide_true, decide_false]; done))) | (with_reducible first | refine splitT ?_ | refine splitF ?_) | ((with_reducible refine splitM.mk (fun hsm => ?_) (fun hsm => ?_)) <;> (try exact zx)) | ((with_reducible refine splitB.mk (fun h => ?_) (fun h => ?_)) <;> (try simp only [zs, ne_eq] at h) <;> (try simp (disch := omega) only [w64] at h) <;> (try exact zx)) | (with_reducible intro hz; (try exact absurd hz (Nat.succ_ne_zero _)))))
  have hK : decide ((splL 10 t).getLast? = some []) = true := decide_eq_true hl
  by_cases hn : (splL 10 t).length ≤ 31
  rotate_left 1
  · refine funW tabOk (E := [(104, s_lines), (105, s_spl), (107, s_nmb), (139, s_rdSI), (116, s_rdFI), (154, (s_idxRc 155)), (57, s_l05Ok), (54, s_chT)]) ⟨ok_lines, ok_Split, ok_number, ok_ReadSpanI, ok_ReadFracI, ok_idxRc, ok_ValidChainI, ok_ChainTextI, trivial⟩ [(11, [(0, 1), (2, 1), (6, 0), (8, 0), (10, 0), (12, 0), (15, 0)])] (k := 0) (fn := Tryz.f53) rfl rfl rfl rfl rfl rfl ?_
    (repeat' ((try (conv => whnf)); first | (with_reducible first | refine And.intro ?_ ?_ | refine WX.of ?_) | exact zc | ((with_reducible refine VC.mk ?_); exact zw) | ((with_reducible refine VC.mk ?_); exact ⟨h1, h2⟩) | ((with_reducible refine splitT_of ?_ ?_); (focus (simp only [hK, Bool.not_true, Bool.not_true, Bool.not_false, decide_true, decide_false]; done))) | ((with_reducible refine splitF_of ?_ ?_); (focus (simp only [hK, Bool.not_true, Bool.not_true, Bool.not_false, decide_true, decide_false]; done))) | (with_reducible first | refine splitT ?_ | refine splitF ?_) | ((with_reducible refine splitM.mk (fun hsm => ?_) (fun hsm => ?_)) <;> (try exact zx)) | ((with_reducible refine splitB.mk (fun h => ?_) (fun h => ?_)) <;> (try simp only [zs, ne_eq] at h) <;> (try simp (disch := omega) only [w64] at h) <;> (try exact zx)) | (with_reducible intro hz; (try exact absurd hz (Nat.succ_ne_zero _)))))
  rw [if_pos ⟨hl, hn⟩] at hR
  cases hO : foL chFP [] (splL 10 t).dropLast with
  | none =>
    obtain ⟨k, x, pre, hx, hO, hf0⟩ := foL_none hO
    have hk : k < (splL 10 t).length - 1 := by
      have := (List.getElem?_eq_some_iff.1 hx).1
      rwa [List.length_dropLast] at this
    have hm := (foL_len hO).1
    rw [List.length_take, List.length_dropLast, List.length_nil, Nat.zero_add] at hm
    have hxl : (splL 10 t)[k]? = some x := by rw [List.getElem?_dropLast, if_pos hk] at hx; exact hx
    have hW6 : ¬ (splL 32 x).length = 6 := fun h6 => by unfold chFP at hf0; rw [if_pos h6] at hf0; cases hf0
    refine funW tabOk (E := [(104, s_lines), (105, s_spl), (107, s_nmb), (139, s_rdSI), (116, s_rdFI), (154, (s_idxRc 155)), (57, s_l05Ok), (54, s_chT)]) ⟨ok_lines, ok_Split, ok_number, ok_ReadSpanI, ok_ReadFracI, ok_idxRc, ok_ValidChainI, ok_ChainTextI, trivial⟩ [(11, [(0, 1), (2, 1), (6, 0), (8, 0), (10, 0), (12, 0), (15, 0)])] (k := 0) (fn := Tryz.f53) rfl rfl rfl rfl rfl rfl ?_
    (repeat' ((try (conv => whnf)); first | (with_reducible first | refine And.intro ?_ ?_ | refine WX.of ?_) | exact zc | ((with_reducible refine VC.mk ?_); exact zw) | ((with_reducible refine VC.mk ?_); exact ⟨h1, h2⟩) | ((with_reducible refine splitT_of ?_ ?_); (focus (simp only [hK, Bool.not_true, Bool.not_true, Bool.not_false, decide_true, decide_false]; done))) | ((with_reducible refine splitF_of ?_ ?_); (focus (simp only [hK, Bool.not_true, Bool.not_true, Bool.not_false, decide_true, decide_false]; done))) | (with_reducible first | refine splitT ?_ | refine splitF ?_) | ((with_reducible refine splitM.mk (fun hsm => ?_) (fun hsm => ?_)) <;> (try exact zx)) | ((with_reducible refine splitB.mk (fun h => ?_) (fun h => ?_)) <;> (try simp only [zs, ne_eq] at h) <;> (try simp (disch := omega) only [w64] at h) <;> (try exact zx)) | (with_reducible intro hz; (try exact absurd hz (Nat.succ_ne_zero _)))))
    refine loopW tabOk (E := [(104, s_lines), (105, s_spl), (107, s_nmb), (139, s_rdSI), (116, s_rdFI), (154, (s_idxRc 155)), (57, s_l05Ok), (54, s_chT)]) ⟨ok_lines, ok_Split, ok_number, ok_ReadSpanI, ok_ReadFracI, ok_idxRc, ok_ValidChainI, ok_ChainTextI, trivial⟩ [(11, [(0, 1), (2, 1), (6, 0), (8, 0), (10, 0), (12, 0), (15, 0)])] (σ := Nat) (fun i => [(0, .str t), (6, .sl 1 0 i 0), (24, .sl 0 0 ((splL 10 t).length - 1) 1), (25, .int .i64 ((splL 10 t).length - 1 : Nat)), (26, .int .i64 i)]) (fun i => [.arr .str (splL 10 t) 1 true, .arr (.prod .str (.prod (.int .i64) (.prod (.prod (.prod (.int .i64) (.int .i64)) (.prod (.int .i64) (.int .i64))) (.prod (.prod (.int .i64) (.int .i64)) (.prod (.int .i64) (.int .i64)))))) (pre.take i) 10 true]) (fun i => (splL 10 t).length - 1 - i) (fun i => i ≤ k) 0 (Nat.zero_le _) ?_ ?_
    · (repeat' ((try (conv => whnf)); first | (with_reducible first | refine And.intro ?_ ?_ | refine WX.of ?_) | exact zc | ((with_reducible refine VC.mk ?_); exact zw) | (with_reducible first | refine splitT ?_ | refine splitF ?_) | ((with_reducible refine splitM.mk (fun hsm => ?_) (fun hsm => ?_)) <;> (try exact zx)) | ((with_reducible refine splitB.mk (fun h => ?_) (fun h => ?_)) <;> (try simp only [zs, ne_eq] at h) <;> (try simp (disch := omega) only [w64] at h) <;> (try exact zx)) | (with_reducible intro hz; (try exact absurd hz (Nat.succ_ne_zero _)))))
    · intro i hi
      by_cases hlt : i < k
      · obtain ⟨ln, hln⟩ := get_some (l := splL 10 t) (i := i) (by omega)
        have hld : ((splL 10 t).dropLast.take k)[i]? = some ln := by rw [List.getElem?_take, if_pos hlt, List.getElem?_dropLast, if_pos (by omega)]; exact hln
        obtain ⟨a, ha, hf⟩ := foL_at hO hld
        obtain ⟨hWn, rfl⟩ := chFP_inv hf
        have hl1 := splL_sub 10 t ln (List.mem_of_getElem? hln)
        have hat : ∀ i, i < 6 → (splL 32 ln)[i]? = some (wR (splL 32 ln) i) := fun i hi => wR_at (by omega)
        have hsz : ∀ i, i < 6 → (wR (splL 32 ln) i).length ≤ 1048576 := fun i hi => Nat.le_trans (wR_len (by omega)) (by omega)
        have a0 := hat 0 (by decide)
        have a2 := hat 2 (by decide)
        have a3 := hat 3 (by decide)
        have a4 := hat 4 (by decide)
        have a5 := hat 5 (by decide)
        have z2 := hsz 2 (by decide)
        have z3 := hsz 3 (by decide)
        have z4 := hsz 4 (by decide)
        have z5 := hsz 5 (by decide)
        have hWl : decide (((splL 32 ln).length : Int) ≠ 6) = false := by rw [hWn]; rfl
        have hlen : (pre.take i).length = i := by rw [List.length_take]; omega
        have hsg : seg (pre.take i) 0 i = pre.take i := seg_full hlen
        have hidx : (0 + i ≤ (pre.take i).length ∧ i ≤ 4611686018427387904) ∧ 1 < (splL 32 ln).length ∧ (splL 32 ln).length ≤ (splL 32 ln).length := ⟨⟨by omega, by omega⟩, by omega, Nat.le_refl _⟩
        (repeat' ((try (conv => whnf)); first | (with_reducible first | refine And.intro ?_ ?_ | refine WX.of ?_) | exact zc | ((with_reducible refine VC.mk ?_); exact zw) | with_reducible refine atL_0 hln ?_ | refine atL_w a0 (by decide) ?_ | refine atL_w a2 (by decide) ?_ | refine atL_w a3 (by decide) ?_ | refine atL_w a4 (by decide) ?_ | refine atL_w a5 (by decide) ?_ | ((with_reducible refine splitT_of ?_ ?_); (focus (simp only [hWl, Bool.not_true, Bool.not_false, decide_true, decide_false]; done))) | ((with_reducible refine splitF_of ?_ ?_); (focus (simp only [hWl, Bool.not_true, Bool.not_false, decide_true, decide_false]; done))) | ((with_reducible refine VC.mk ?_); exact ⟨rfl, hidx⟩) | ((with_reducible refine VC.mk ?_); exact z2) | ((with_reducible refine VC.mk ?_); exact z3) | ((with_reducible refine VC.mk ?_); exact z4) | ((with_reducible refine VC.mk ?_); exact z5) | (with_reducible first | refine splitT ?_ | refine splitF ?_) | ((with_reducible refine splitM.mk (fun hsm => ?_) (fun hsm => ?_)) <;> (try exact zx)) | ((with_reducible refine splitB.mk (fun h => ?_) (fun h => ?_)) <;> (try simp only [zs, ne_eq] at h) <;> (try simp (disch := omega) only [w64] at h) <;> (try exact zx)) | (with_reducible intro hz; (try exact absurd hz (Nat.succ_ne_zero _)))))
        have ha2 : pre[i]? = some (wR (splL 32 ln) 0, findI (fun a : StT => decide (a.1 = wR (splL 32 ln) 1)) (seg (pre.take i) 0 i), spnD (wR (splL 32 ln) 2), frD (wR (splL 32 ln) 3), nmb (wR (splL 32 ln) 4), nmb (wR (splL 32 ln) 5)) := by rw [hsg]; exact ha
        refine ⟨i + 1, by omega, by omega, ?_⟩
        (repeat' ((try (conv => whnf)); first | (with_reducible first | refine And.intro ?_ ?_ | refine WX.of ?_) | exact zc | ((with_reducible refine VC.mk ?_); exact zw) | (with_reducible first | refine splitT ?_ | refine splitF ?_) | ((with_reducible refine splitM.mk (fun hsm => ?_) (fun hsm => ?_)) <;> (try exact zx)) | ((with_reducible refine splitB.mk (fun h => ?_) (fun h => ?_)) <;> (try simp only [zs, ne_eq] at h) <;> (try simp (disch := omega) only [w64] at h) <;> (try exact zx)) | (with_reducible intro hz; (try exact absurd hz (Nat.succ_ne_zero _)))))
        all_goals exact ⟨app_take ha2⟩
      · obtain rfl : i = k := by omega
        have hl1 := splL_sub 10 t x (List.mem_of_getElem? hxl)
        have hWl : decide (((splL 32 x).length : Int) ≠ 6) = true := decide_eq_true (by omega)
        have hlen : (pre.take i).length = i := by rw [List.length_take]; omega
        (repeat' ((try (conv => whnf)); first | (with_reducible first | refine And.intro ?_ ?_ | refine WX.of ?_) | exact zc | ((with_reducible refine VC.mk ?_); exact zw) | with_reducible refine atL_0 hxl ?_ | ((with_reducible refine splitT_of ?_ ?_); (focus (simp only [hWl, Bool.not_true, Bool.not_false, decide_true, decide_false]; done))) | ((with_reducible refine splitF_of ?_ ?_); (focus (simp only [hWl, Bool.not_true, Bool.not_false, decide_true, decide_false]; done))) | (with_reducible first | refine splitT ?_ | refine splitF ?_) | ((with_reducible refine splitM.mk (fun hsm => ?_) (fun hsm => ?_)) <;> (try exact zx)) | ((with_reducible refine splitB.mk (fun h => ?_) (fun h => ?_)) <;> (try simp only [zs, ne_eq] at h) <;> (try simp (disch := omega) only [w64] at h) <;> (try exact zx)) | (with_reducible intro hz; (try exact absurd hz (Nat.succ_ne_zero _)))))
  | some R =>
    rw [hO] at hR
    simp only at hR
    have hbad : ¬ (chB R = true ∧ chT R R = t) := fun h9 => by rw [if_pos h9] at hR; cases hR
    have hm := (foL_len hO).1
    rw [List.length_dropLast, List.length_nil, Nat.zero_add] at hm
    have hnm : ∀ (j : Nat) (a : StT), R[j]? = some a → a.1.length < 9223372036854775808 := fun j a ha => by
      have hj := (List.getElem?_eq_some_iff.1 ha).1
      obtain ⟨ln, hln⟩ := get_some (l := splL 10 t) (i := j) (by omega)
      have hld : (splL 10 t).dropLast[j]? = some ln := by rw [List.getElem?_dropLast, if_pos (by omega)]; exact hln
      obtain ⟨y, hy, hf⟩ := foL_at hO hld
      rw [ha] at hy
      injection hy with hy
      obtain ⟨h6, e⟩ := chFP_inv hf
      have hl1 := splL_sub 10 t ln (List.mem_of_getElem? hln)
      have hs0 := wR_len (c := 32) (t := ln) (i := 0) (by omega)
      rw [hy, e]
      show (wR (splL 32 ln) 0).length < _
      omega
    refine funW tabOk (E := [(104, s_lines), (105, s_spl), (107, s_nmb), (139, s_rdSI), (116, s_rdFI), (154, (s_idxRc 155)), (57, s_l05Ok), (54, s_chT)]) ⟨ok_lines, ok_Split, ok_number, ok_ReadSpanI, ok_ReadFracI, ok_idxRc, ok_ValidChainI, ok_ChainTextI, trivial⟩ [(11, [(0, 1), (2, 1), (6, 0), (8, 0), (10, 0), (12, 0), (15, 0)])] (k := 0) (fn := Tryz.f53) rfl rfl rfl rfl rfl rfl ?_
    (repeat' ((try (conv => whnf)); first | (with_reducible first | refine And.intro ?_ ?_ | refine WX.of ?_) | exact zc | ((with_reducible refine VC.mk ?_); exact zw) | ((with_reducible refine VC.mk ?_); exact ⟨h1, h2⟩) | ((with_reducible refine splitT_of ?_ ?_); (focus (simp only [hK, Bool.not_true, Bool.not_true, Bool.not_false, decide_true, decide_false]; done))) | ((with_reducible refine splitF_of ?_ ?_); (focus (simp only [hK, Bool.not_true, Bool.not_true, Bool.not_false, decide_true, decide_false]; done))) | (with_reducible first | refine splitT ?_ | refine splitF ?_) | ((with_reducible refine splitM.mk (fun hsm => ?_) (fun hsm => ?_)) <;> (try exact zx)) | ((with_reducible refine splitB.mk (fun h => ?_) (fun h => ?_)) <;> (try simp only [zs, ne_eq] at h) <;> (try simp (disch := omega) only [w64] at h) <;> (try exact zx)) | (with_reducible intro hz; (try exact absurd hz (Nat.succ_ne_zero _)))))
    refine loopW tabOk (E := [(104, s_lines), (105, s_spl), (107, s_nmb), (139, s_rdSI), (116, s_rdFI), (154, (s_idxRc 155)), (57, s_l05Ok), (54, s_chT)]) ⟨ok_lines, ok_Split, ok_number, ok_ReadSpanI, ok_ReadFracI, ok_idxRc, ok_ValidChainI, ok_ChainTextI, trivial⟩ [(11, [(0, 1), (2, 1), (6, 0), (8, 0), (10, 0), (12, 0), (15, 0)])] (σ := Nat) (fun i => [(0, .str t), (6, .sl 1 0 i 0), (24, .sl 0 0 ((splL 10 t).length - 1) 1), (25, .int .i64 ((splL 10 t).length - 1 : Nat)), (26, .int .i64 i)]) (fun i => [.arr .str (splL 10 t) 1 true, .arr (.prod .str (.prod (.int .i64) (.prod (.prod (.prod (.int .i64) (.int .i64)) (.prod (.int .i64) (.int .i64))) (.prod (.prod (.int .i64) (.int .i64)) (.prod (.int .i64) (.int .i64)))))) (R.take i) 10 true]) (fun i => (splL 10 t).length - 1 - i) (fun i => i ≤ (splL 10 t).length - 1) 0 (Nat.zero_le _) ?_ ?_
    · (repeat' ((try (conv => whnf)); first | (with_reducible first | refine And.intro ?_ ?_ | refine WX.of ?_) | exact zc | ((with_reducible refine VC.mk ?_); exact zw) | (with_reducible first | refine splitT ?_ | refine splitF ?_) | ((with_reducible refine splitM.mk (fun hsm => ?_) (fun hsm => ?_)) <;> (try exact zx)) | ((with_reducible refine splitB.mk (fun h => ?_) (fun h => ?_)) <;> (try simp only [zs, ne_eq] at h) <;> (try simp (disch := omega) only [w64] at h) <;> (try exact zx)) | (with_reducible intro hz; (try exact absurd hz (Nat.succ_ne_zero _)))))
    · intro i hi
      by_cases hlt : i < (splL 10 t).length - 1
      · obtain ⟨ln, hln⟩ := get_some (l := splL 10 t) (i := i) (by omega)
        have hld : (splL 10 t).dropLast[i]? = some ln := by rw [List.getElem?_dropLast, if_pos hlt]; exact hln
        obtain ⟨a, ha, hf⟩ := foL_at hO hld
        obtain ⟨hWn, rfl⟩ := chFP_inv hf
        have hl1 := splL_sub 10 t ln (List.mem_of_getElem? hln)
        have hat : ∀ i, i < 6 → (splL 32 ln)[i]? = some (wR (splL 32 ln) i) := fun i hi => wR_at (by omega)
        have hsz : ∀ i, i < 6 → (wR (splL 32 ln) i).length ≤ 1048576 := fun i hi => Nat.le_trans (wR_len (by omega)) (by omega)
        have a0 := hat 0 (by decide)
        have a2 := hat 2 (by decide)
        have a3 := hat 3 (by decide)
        have a4 := hat 4 (by decide)
        have a5 := hat 5 (by decide)
        have z2 := hsz 2 (by decide)
        have z3 := hsz 3 (by decide)
        have z4 := hsz 4 (by decide)
        have z5 := hsz 5 (by decide)
        have hWl : decide (((splL 32 ln).length : Int) ≠ 6) = false := by rw [hWn]; rfl
        have hlen : (R.take i).length = i := by rw [List.length_take]; omega
        have hsg : seg (R.take i) 0 i = R.take i := seg_full hlen
        have hidx : (0 + i ≤ (R.take i).length ∧ i ≤ 4611686018427387904) ∧ 1 < (splL 32 ln).length ∧ (splL 32 ln).length ≤ (splL 32 ln).length := ⟨⟨by omega, by omega⟩, by omega, Nat.le_refl _⟩
        (repeat' ((try (conv => whnf)); first | (with_reducible first | refine And.intro ?_ ?_ | refine WX.of ?_) | exact zc | ((with_reducible refine VC.mk ?_); exact zw) | with_reducible refine atL_0 hln ?_ | refine atL_w a0 (by decide) ?_ | refine atL_w a2 (by decide) ?_ | refine atL_w a3 (by decide) ?_ | refine atL_w a4 (by decide) ?_ | refine atL_w a5 (by decide) ?_ | ((with_reducible refine splitT_of ?_ ?_); (focus (simp only [hWl, Bool.not_true, Bool.not_false, decide_true, decide_false]; done))) | ((with_reducible refine splitF_of ?_ ?_); (focus (simp only [hWl, Bool.not_true, Bool.not_false, decide_true, decide_false]; done))) | ((with_reducible refine VC.mk ?_); exact ⟨rfl, hidx⟩) | ((with_reducible refine VC.mk ?_); exact z2) | ((with_reducible refine VC.mk ?_); exact z3) | ((with_reducible refine VC.mk ?_); exact z4) | ((with_reducible refine VC.mk ?_); exact z5) | (with_reducible first | refine splitT ?_ | refine splitF ?_) | ((with_reducible refine splitM.mk (fun hsm => ?_) (fun hsm => ?_)) <;> (try exact zx)) | ((with_reducible refine splitB.mk (fun h => ?_) (fun h => ?_)) <;> (try simp only [zs, ne_eq] at h) <;> (try simp (disch := omega) only [w64] at h) <;> (try exact zx)) | (with_reducible intro hz; (try exact absurd hz (Nat.succ_ne_zero _)))))
        have ha2 : R[i]? = some (wR (splL 32 ln) 0, findI (fun a : StT => decide (a.1 = wR (splL 32 ln) 1)) (seg (R.take i) 0 i), spnD (wR (splL 32 ln) 2), frD (wR (splL 32 ln) 3), nmb (wR (splL 32 ln) 4), nmb (wR (splL 32 ln) 5)) := by rw [hsg]; exact ha
        refine ⟨i + 1, by omega, by omega, ?_⟩
        (repeat' ((try (conv => whnf)); first | (with_reducible first | refine And.intro ?_ ?_ | refine WX.of ?_) | exact zc | ((with_reducible refine VC.mk ?_); exact zw) | (with_reducible first | refine splitT ?_ | refine splitF ?_) | ((with_reducible refine splitM.mk (fun hsm => ?_) (fun hsm => ?_)) <;> (try exact zx)) | ((with_reducible refine splitB.mk (fun h => ?_) (fun h => ?_)) <;> (try simp only [zs, ne_eq] at h) <;> (try simp (disch := omega) only [w64] at h) <;> (try exact zx)) | (with_reducible intro hz; (try exact absurd hz (Nat.succ_ne_zero _)))))
        all_goals exact ⟨app_take ha2⟩
      · obtain rfl : i = (splL 10 t).length - 1 := by omega
        have htk : R.take ((splL 10 t).length - 1) = R := List.take_of_length_le (by omega)
        have hsg : seg R 0 ((splL 10 t).length - 1) = R := seg_full hm
        rw [htk]
        by_cases hB : chB R = true
        · have hB2 : chB (seg R 0 ((splL 10 t).length - 1)) = true := by rw [hsg]; exact hB
          have hT2 : ¬ (if chB (seg R 0 ((splL 10 t).length - 1)) = true then chT (seg R 0 ((splL 10 t).length - 1)) (seg R 0 ((splL 10 t).length - 1)) else []) = t := by rw [if_pos hB2, hsg]; exact fun h => hbad ⟨hB, h⟩
          (repeat' ((try (conv => whnf)); first | (with_reducible first | refine And.intro ?_ ?_ | refine WX.of ?_) | exact zc | ((with_reducible refine VC.mk ?_); exact zw) | ((with_reducible refine VC.mk ?_); exact ⟨⟨by omega, by omega⟩, hnm⟩) | ((with_reducible refine splitT_of ?_ ?_); (focus (simp only [hB2, Bool.not_true, Bool.not_true, Bool.not_false, decide_true, decide_false]; done))) | ((with_reducible refine splitF_of ?_ ?_); (focus (simp only [hB2, Bool.not_true, Bool.not_true, Bool.not_false, decide_true, decide_false]; done))) | ((with_reducible refine splitT_of ?_ ?_); (focus (simp only [hT2, ne_eq, not_false_eq_true, decide_true, Bool.not_true, Bool.not_false, decide_true, decide_false]; done))) | ((with_reducible refine splitF_of ?_ ?_); (focus (simp only [hT2, ne_eq, not_false_eq_true, decide_true, Bool.not_true, Bool.not_false, decide_true, decide_false]; done))) | (with_reducible first | refine splitT ?_ | refine splitF ?_) | ((with_reducible refine splitM.mk (fun hsm => ?_) (fun hsm => ?_)) <;> (try exact zx)) | ((with_reducible refine splitB.mk (fun h => ?_) (fun h => ?_)) <;> (try simp only [zs, ne_eq] at h) <;> (try simp (disch := omega) only [w64] at h) <;> (try exact zx)) | (with_reducible intro hz; (try exact absurd hz (Nat.succ_ne_zero _)))))
        · have hB2 : chB (seg R 0 ((splL 10 t).length - 1)) = false := by rw [hsg]; simpa using hB
          (repeat' ((try (conv => whnf)); first | (with_reducible first | refine And.intro ?_ ?_ | refine WX.of ?_) | exact zc | ((with_reducible refine VC.mk ?_); exact zw) | ((with_reducible refine VC.mk ?_); exact ⟨⟨by omega, by omega⟩, hnm⟩) | ((with_reducible refine splitT_of ?_ ?_); (focus (simp only [hB2, Bool.not_false, Bool.not_true, Bool.not_false, decide_true, decide_false]; done))) | ((with_reducible refine splitF_of ?_ ?_); (focus (simp only [hB2, Bool.not_false, Bool.not_true, Bool.not_false, decide_true, decide_false]; done))) | (with_reducible first | refine splitT ?_ | refine splitF ?_) | ((with_reducible refine splitM.mk (fun hsm => ?_) (fun hsm => ?_)) <;> (try exact zx)) | ((with_reducible refine splitB.mk (fun h => ?_) (fun h => ?_)) <;> (try simp only [zs, ne_eq] at h) <;> (try simp (disch := omega) only [w64] at h) <;> (try exact zx)) | (with_reducible intro hz; (try exact absurd hz (Nat.succ_ne_zero _)))))
end Go.Proofs.YtamachahlhlhlaaGreatDoor.Eng
set_option linter.unusedVariables false
set_option linter.unusedSimpArgs false
namespace Go.Proofs.YtamachahlhlhlaaGreatDoor.Eng
open Go Go.RowKit
set_option maxRecDepth 100000
def s_splS (c : UInt8) : Spec := fun args S => match args, S with
  | [.str s, .int .u8 k], [] => ⟨s.length ≤ 1048576 ∧ k = (c.toNat : Int), .sl 0 0 (splL c s).length 0, [.arr .str (splL c s) 1 true]⟩
  | _, _ => noSpec
theorem ok_l01Split (c : UInt8) : SpecOk Tryz.prog 168 (s_splS c) := by
  intro args S h; unfold s_splS at h ⊢; (split at h <;> first | exact False.elim h | skip)
  dsimp only at h ⊢
  rename_i s k
  obtain ⟨h1, rfl⟩ := h
  refine funW tabOk (E := []) trivial [] (k := 0) (fn := Tryz.f168) rfl rfl rfl rfl rfl rfl ?_
  (repeat' ((try (conv => whnf)); first | (with_reducible first | refine And.intro ?_ ?_ | refine WX.of ?_) | exact zc | ((with_reducible refine VC.mk ?_); exact zw) | (with_reducible first | refine splitT ?_ | refine splitF ?_) | ((with_reducible refine splitM.mk (fun hsm => ?_) (fun hsm => ?_)) <;> (try exact zx)) | ((with_reducible refine splitB.mk (fun h => ?_) (fun h => ?_)) <;> (try simp only [zs, ne_eq] at h) <;> (try simp (disch := omega) only [w64] at h) <;> (try exact zx)) | (with_reducible intro hz; (try exact absurd hz (Nat.succ_ne_zero _)))))
  refine loopW tabOk (E := []) trivial [] (σ := Nat) (fun i => [(0, .str s), (1, .int .u8 (c.toNat : Int)), (5, .sl 0 0 (spS c s i).1.length 0), (6, .int .i64 ((spS c s i).2 : Nat)), (7, .int .i64 i)]) (fun i => [.arr .str (spS c s i).1 1 true]) (fun i => s.length - i) (fun i => i ≤ s.length) 0 (Nat.zero_le _) ?_ ?_
  · (repeat' ((try (conv => whnf)); first | (with_reducible first | refine And.intro ?_ ?_ | refine WX.of ?_) | exact zc | ((with_reducible refine VC.mk ?_); exact zw) | (with_reducible first | refine splitT ?_ | refine splitF ?_) | ((with_reducible refine splitM.mk (fun hsm => ?_) (fun hsm => ?_)) <;> (try exact zx)) | ((with_reducible refine splitB.mk (fun h => ?_) (fun h => ?_)) <;> (try simp only [zs, ne_eq] at h) <;> (try simp (disch := omega) only [w64] at h) <;> (try exact zx)) | (with_reducible intro hz; (try exact absurd hz (Nat.succ_ne_zero _)))))
  · intro i hi
    obtain ⟨g1, g2, _, _⟩ := spS_inv c s i hi
    by_cases hlt : i < s.length
    · obtain ⟨a, ha⟩ := get_some (l := s) (i := i) hlt
      (repeat' ((try (conv => whnf)); first | (with_reducible first | refine And.intro ?_ ?_ | refine WX.of ?_) | exact zc | ((with_reducible refine VC.mk ?_); exact zw) | with_reducible refine atL_0 ha ?_ | with_reducible refine atL_n ha ?_ | (with_reducible first | refine splitT ?_ | refine splitF ?_) | ((with_reducible refine splitM.mk (fun hsm => ?_) (fun hsm => ?_)) <;> (try exact zx)) | ((with_reducible refine splitB.mk (fun h => ?_) (fun h => ?_)) <;> (try simp only [zs, ne_eq] at h) <;> (try simp (disch := omega) only [w64] at h) <;> (try exact zx)) | (with_reducible intro hz; (try exact absurd hz (Nat.succ_ne_zero _)))))
      · have hac : s[i]? = some c := by
          rw [ha]
          exact congrArg some (UInt8.toNat_inj.1 (Int.ofNat.inj h))
        have e : spS c s (i + 1) = ((spS c s i).1 ++ [(s.take i).drop (spS c s i).2], i + 1) := if_pos hac
        have hrows : seg (spS c s i).1 0 (spS c s i).1.length ++ seg [(s.take ((i : Nat) : Int).toNat).drop (((spS c s i).2 : Nat) : Int).toNat] 0 1 = (spS c s i).1 ++ [(s.take i).drop (spS c s i).2] := by
          rw [seg_all]; rfl
        refine ⟨i + 1, by omega, hlt, ?_⟩
        rw [e]
        (repeat' ((try (conv => whnf)); first | (with_reducible first | refine And.intro ?_ ?_ | refine WX.of ?_) | exact zc | ((with_reducible refine VC.mk ?_); exact zw) | (with_reducible first | refine splitT ?_ | refine splitF ?_) | ((with_reducible refine splitM.mk (fun hsm => ?_) (fun hsm => ?_)) <;> (try exact zx)) | ((with_reducible refine splitB.mk (fun h => ?_) (fun h => ?_)) <;> (try simp only [zs, ne_eq] at h) <;> (try simp (disch := omega) only [w64] at h) <;> (try exact zx)) | (with_reducible intro hz; (try exact absurd hz (Nat.succ_ne_zero _)))))
        all_goals first
          | exact ⟨by simp⟩
          | exact ⟨hrows⟩
      · have hac : ¬ s[i]? = some c := fun hh => by
          rw [ha] at hh
          injection hh with hh
          exact h (by rw [hh])
        have e : spS c s (i + 1) = spS c s i := if_neg hac
        refine ⟨i + 1, by omega, hlt, ?_⟩
        rw [e]
        (repeat' ((try (conv => whnf)); first | (with_reducible first | refine And.intro ?_ ?_ | refine WX.of ?_) | exact zc | ((with_reducible refine VC.mk ?_); exact zw) | (with_reducible first | refine splitT ?_ | refine splitF ?_) | ((with_reducible refine splitM.mk (fun hsm => ?_) (fun hsm => ?_)) <;> (try exact zx)) | ((with_reducible refine splitB.mk (fun h => ?_) (fun h => ?_)) <;> (try simp only [zs, ne_eq] at h) <;> (try simp (disch := omega) only [w64] at h) <;> (try exact zx)) | (with_reducible intro hz; (try exact absurd hz (Nat.succ_ne_zero _)))))
    · obtain rfl : i = s.length := by omega
      have he := spS_end c s
      have hle : (splL c s).length = (spS c s s.length).1.length + 1 := by rw [he]; simp
      have hrw : seg (spS c s s.length).1 0 (spS c s s.length).1.length ++ seg [s.drop (((spS c s s.length).2 : Nat) : Int).toNat] 0 1 = splL c s := by
        rw [seg_all, he]; rfl
      (repeat' ((try (conv => whnf)); first | (with_reducible first | refine And.intro ?_ ?_ | refine WX.of ?_) | exact zc | ((with_reducible refine VC.mk ?_); exact zw) | (with_reducible first | refine splitT ?_ | refine splitF ?_) | ((with_reducible refine splitM.mk (fun hsm => ?_) (fun hsm => ?_)) <;> (try exact zx)) | ((with_reducible refine splitB.mk (fun h => ?_) (fun h => ?_)) <;> (try simp only [zs, ne_eq] at h) <;> (try simp (disch := omega) only [w64] at h) <;> (try exact zx)) | (with_reducible intro hz; (try exact absurd hz (Nat.succ_ne_zero _)))))
      exact ⟨congrArg (fun z => [SB.arr .str z 1 true]) hrw⟩
def s_numS : Spec := fun args S => match args, S with
  | [.str s], [] => ⟨s.length ≤ 1048576, .tup [.int .i64 ((numR s).getD 0), .bool (numR s).isSome], []⟩
  | _, _ => noSpec
end Go.Proofs.YtamachahlhlhlaaGreatDoor.Eng
set_option linter.unusedVariables false
set_option linter.unusedSimpArgs false
namespace Go.Proofs.YtamachahlhlhlaaGreatDoor.Eng
open Go Go.RowKit
set_option maxRecDepth 100000
theorem digR_stop {s : List UInt8} {i : Nat} {n : Int} {x : UInt8} (h : digR 0 (s.take i) = some n) (hx : s[i]? = some x) (hb : x.toNat < 48 ∨ 57 < x.toNat) : digR 0 s = none := by
  obtain ⟨hi, rfl⟩ := List.getElem?_eq_some_iff.1 hx
  have e : s = s.take i ++ s.drop i := (List.take_append_drop i s).symm
  rw [e, digR_app, h, List.drop_eq_getElem_cons hi]
  simp only [Option.bind_some, digR]
  rw [if_pos hb]
theorem digR_go {s : List UInt8} {i : Nat} {n : Int} {x : UInt8} (h : digR 0 (s.take i) = some n) (hx : s[i]? = some x) (h1 : 48 ≤ x.toNat) (h2 : x.toNat ≤ 57) : digR 0 (s.take (i + 1)) = some (10 * n + ((x.toNat : Int) - 48)) := by
  obtain ⟨hi, rfl⟩ := List.getElem?_eq_some_iff.1 hx
  rw [List.take_succ_eq_append_getElem hi, digR_app, h]
  simp only [Option.bind_some, digR]
  rw [if_neg (by omega)]
theorem ten_le {i : Nat} (h : i ≤ 9) : (10 : Int) ^ i ≤ 1000000000 := by
  have : (10 : Nat) ^ i ≤ 10 ^ 9 := Nat.pow_le_pow_right (by decide) h
  have e : ((10 ^ i : Nat) : Int) = (10 : Int) ^ i := by simp
  rw [← e]; omega
theorem ok_l01Number : SpecOk Tryz.prog 171 s_numS := by
  intro args S h; unfold s_numS at h ⊢; (split at h <;> first | exact False.elim h | skip)
  dsimp only at h ⊢
  rename_i s
  refine funW tabOk (E := []) trivial [] (k := 0) (fn := Tryz.f171) rfl rfl rfl rfl rfl rfl ?_
  by_cases h0 : s = []
  · subst h0
    (repeat' ((try (conv => whnf)); first | (with_reducible first | refine And.intro ?_ ?_ | refine WX.of ?_) | exact zc | ((with_reducible refine VC.mk ?_); exact zw) | (with_reducible first | refine splitT ?_ | refine splitF ?_) | ((with_reducible refine splitM.mk (fun hsm => ?_) (fun hsm => ?_)) <;> (try exact zx)) | ((with_reducible refine splitB.mk (fun h => ?_) (fun h => ?_)) <;> (try simp only [zs, ne_eq] at h) <;> (try simp (disch := omega) only [w64] at h) <;> (try exact zx)) | (with_reducible intro hz; (try exact absurd hz (Nat.succ_ne_zero _)))))
  have hl : 1 ≤ s.length := by
    cases s with
    | nil => exact absurd rfl h0
    | cons => simp
  obtain ⟨x0, hx0⟩ := get_some (l := s) (i := 0) (by omega)
  have hd : decide (s = []) = false := decide_eq_false h0
  by_cases h10 : 10 < s.length
  · have e : numR s = none := if_pos (.inr (.inl h10))
    rw [e]
    (repeat' ((try (conv => whnf)); first | (with_reducible first | refine And.intro ?_ ?_ | refine WX.of ?_) | exact zc | ((with_reducible refine VC.mk ?_); exact zw) | with_reducible refine atL_0 hx0 ?_ | ((with_reducible refine splitT_of ?_ ?_); (focus (simp only [hd, Bool.not_true, Bool.not_false, decide_true, decide_false]; done))) | ((with_reducible refine splitF_of ?_ ?_); (focus (simp only [hd, Bool.not_true, Bool.not_false, decide_true, decide_false]; done))) | (with_reducible first | refine splitT ?_ | refine splitF ?_) | ((with_reducible refine splitM.mk (fun hsm => ?_) (fun hsm => ?_)) <;> (try exact zx)) | ((with_reducible refine splitB.mk (fun h => ?_) (fun h => ?_)) <;> (try simp only [zs, ne_eq] at h) <;> (try simp (disch := omega) only [w64] at h) <;> (try exact zx)) | (with_reducible intro hz; (try exact absurd hz (Nat.succ_ne_zero _)))))
  have hxz : s[0]? = some 48 ↔ (x0.toNat : Int) = 48 := by
    rw [hx0]
    constructor
    · intro h; injection h with h; rw [h]; rfl
    · intro h; rw [show x0 = 48 from UInt8.toNat_inj.1 (Int.ofNat.inj h)]
  by_cases hz : s[0]? = some 48 ∧ 1 < s.length
  · have e : numR s = none := if_pos (.inr (.inr hz))
    rw [e]
    have hz1 := hxz.1 hz.1
    (repeat' ((try (conv => whnf)); first | (with_reducible first | refine And.intro ?_ ?_ | refine WX.of ?_) | exact zc | ((with_reducible refine VC.mk ?_); exact zw) | refine atL_w hx0 (by decide) ?_ | ((with_reducible refine splitT_of ?_ ?_); (focus (simp only [hd, Bool.not_true, Bool.not_false, decide_true, decide_false]; done))) | ((with_reducible refine splitF_of ?_ ?_); (focus (simp only [hd, Bool.not_true, Bool.not_false, decide_true, decide_false]; done))) | (with_reducible first | refine splitT ?_ | refine splitF ?_) | ((with_reducible refine splitM.mk (fun hsm => ?_) (fun hsm => ?_)) <;> (try exact zx)) | ((with_reducible refine splitB.mk (fun h => ?_) (fun h => ?_)) <;> (try simp only [zs, ne_eq] at h) <;> (try simp (disch := omega) only [w64] at h) <;> (try exact zx)) | (with_reducible intro hz; (try exact absurd hz (Nat.succ_ne_zero _)))))
  · have e : numR s = digR 0 s := if_neg (by rintro (h | h | h) <;> contradiction)
    have hz1 : (x0.toNat : Int) = 48 → ¬ 1 < s.length := fun h1 h2 => hz ⟨hxz.2 h1, h2⟩
    rw [e]
    (repeat' ((try (conv => whnf)); first | (with_reducible first | refine And.intro ?_ ?_ | refine WX.of ?_) | exact zc | ((with_reducible refine VC.mk ?_); exact zw) | refine atL_w hx0 (by decide) ?_ | ((with_reducible refine splitT_of ?_ ?_); (focus (simp only [hd, Bool.not_true, Bool.not_false, decide_true, decide_false]; done))) | ((with_reducible refine splitF_of ?_ ?_); (focus (simp only [hd, Bool.not_true, Bool.not_false, decide_true, decide_false]; done))) | (with_reducible first | refine splitT ?_ | refine splitF ?_) | ((with_reducible refine splitM.mk (fun hsm => ?_) (fun hsm => ?_)) <;> (try exact zx)) | ((with_reducible refine splitB.mk (fun h => ?_) (fun h => ?_)) <;> (try simp only [zs, ne_eq] at h) <;> (try simp (disch := omega) only [w64] at h) <;> (try exact zx)) | (with_reducible intro hz; (try exact absurd hz (Nat.succ_ne_zero _)))))
    all_goals (try (exfalso; have := hz1 ‹_›; omega))
    all_goals
      refine loopW tabOk (E := []) trivial [] (σ := Nat × Int) (fun i => [(0, .str s), (4, .int .i64 i.2), (5, .int .i64 i.1)]) (fun _ => []) (fun i => s.length - i.1) (fun i => i.1 ≤ s.length ∧ digR 0 (s.take i.1) = some i.2 ∧ 0 ≤ i.2 ∧ i.2 < 10 ^ i.1) (0, 0) ⟨Nat.zero_le _, rfl, by decide, by decide⟩ ?_ ?_
      · (repeat' ((try (conv => whnf)); first | (with_reducible first | refine And.intro ?_ ?_ | refine WX.of ?_) | exact zc | ((with_reducible refine VC.mk ?_); exact zw) | (with_reducible first | refine splitT ?_ | refine splitF ?_) | ((with_reducible refine splitM.mk (fun hsm => ?_) (fun hsm => ?_)) <;> (try exact zx)) | ((with_reducible refine splitB.mk (fun h => ?_) (fun h => ?_)) <;> (try simp only [zs, ne_eq] at h) <;> (try simp (disch := omega) only [w64] at h) <;> (try exact zx)) | (with_reducible intro hz; (try exact absurd hz (Nat.succ_ne_zero _)))))
      · intro ⟨i, n⟩ ⟨hi, hg, hn0, hn1⟩
        dsimp only at hi hg hn0 hn1
        by_cases hlt : i < s.length
        · obtain ⟨x, hx⟩ := get_some (l := s) (i := i) hlt
          have ht := ten_le (i := i) (by omega)
          have hxb := x.toNat_lt
          by_cases hb : x.toNat < 48 ∨ 57 < x.toNat
          · rw [digR_stop hg hx hb]
            (repeat' ((try (conv => whnf)); first | (with_reducible first | refine And.intro ?_ ?_ | refine WX.of ?_) | exact zc | ((with_reducible refine VC.mk ?_); exact zw) | with_reducible refine atL_n hx ?_ | with_reducible refine atL_0 hx ?_ | (with_reducible first | refine splitT ?_ | refine splitF ?_) | ((with_reducible refine splitM.mk (fun hsm => ?_) (fun hsm => ?_)) <;> (try exact zx)) | ((with_reducible refine splitB.mk (fun h => ?_) (fun h => ?_)) <;> (try simp only [zs, ne_eq] at h) <;> (try simp (disch := omega) only [w64] at h) <;> (try exact zx)) | (with_reducible intro hz; (try exact absurd hz (Nat.succ_ne_zero _)))))
            all_goals (exfalso; omega)
          · have hgo := digR_go hg hx (by omega) (by omega)
            (repeat' ((try (conv => whnf)); first | (with_reducible first | refine And.intro ?_ ?_ | refine WX.of ?_) | exact zc | ((with_reducible refine VC.mk ?_); exact zw) | with_reducible refine atL_n hx ?_ | with_reducible refine atL_0 hx ?_ | (with_reducible first | refine splitT ?_ | refine splitF ?_) | ((with_reducible refine splitM.mk (fun hsm => ?_) (fun hsm => ?_)) <;> (try exact zx)) | ((with_reducible refine splitB.mk (fun h => ?_) (fun h => ?_)) <;> (try simp only [zs, ne_eq] at h) <;> (try simp (disch := omega) only [w64] at h) <;> (try exact zx)) | (with_reducible intro hz; (try exact absurd hz (Nat.succ_ne_zero _)))))
            all_goals first
              | (exfalso; omega)
              | skip
            refine ⟨(i + 1, 10 * n + ((x.toNat : Int) - 48)), by dsimp only; omega, ⟨by dsimp only; omega, hgo, by dsimp only; omega, ?_⟩, ?_⟩
            · dsimp only
              rw [Int.pow_succ]; omega
            · have hw : IntKind.i64.wrap (IntKind.i64.wrap (10 * n) + IntKind.i64.wrap (IntKind.u8.wrap ((x.toNat : Int) - 48))) = 10 * n + ((x.toNat : Int) - 48) := by
                have e8 : IntKind.u8.wrap ((x.toNat : Int) - 48) = (x.toNat : Int) - 48 := by simp [IntKind.wrap, IntKind.bits, IntKind.signed]; omega
                rw [e8, w64 (n := 10 * n) (by omega), w64 (n := (x.toNat : Int) - 48) (by omega), w64 (by omega)]
              (repeat' ((try (conv => whnf)); first | (with_reducible first | refine And.intro ?_ ?_ | refine WX.of ?_) | exact zc | ((with_reducible refine VC.mk ?_); exact zw) | ((with_reducible refine VC.mk ?_); dsimp only; (rw [hw]; done)) | (with_reducible first | refine splitT ?_ | refine splitF ?_) | ((with_reducible refine splitM.mk (fun hsm => ?_) (fun hsm => ?_)) <;> (try exact zx)) | ((with_reducible refine splitB.mk (fun h => ?_) (fun h => ?_)) <;> (try simp only [zs, ne_eq] at h) <;> (try simp (disch := omega) only [w64] at h) <;> (try exact zx)) | (with_reducible intro hz; (try exact absurd hz (Nat.succ_ne_zero _)))))
        · obtain rfl : i = s.length := by omega
          rw [List.take_length] at hg
          rw [hg]
          (repeat' ((try (conv => whnf)); first | (with_reducible first | refine And.intro ?_ ?_ | refine WX.of ?_) | exact zc | ((with_reducible refine VC.mk ?_); exact zw) | (with_reducible first | refine splitT ?_ | refine splitF ?_) | ((with_reducible refine splitM.mk (fun hsm => ?_) (fun hsm => ?_)) <;> (try exact zx)) | ((with_reducible refine splitB.mk (fun h => ?_) (fun h => ?_)) <;> (try simp only [zs, ne_eq] at h) <;> (try simp (disch := omega) only [w64] at h) <;> (try exact zx)) | (with_reducible intro hz; (try exact absurd hz (Nat.succ_ne_zero _)))))
end Go.Proofs.YtamachahlhlhlaaGreatDoor.Eng
set_option linter.unusedVariables false
set_option linter.unusedSimpArgs false
namespace Go.Proofs.YtamachahlhlhlaaGreatDoor.Eng
open Go Go.RowKit
set_option maxRecDepth 100000
def s_sgnS : Spec := fun args S => match args, S with
  | [.str s], [] => ⟨s.length ≤ 1048576, .tup [.int .i64 ((sgnR s).getD 0), .bool (sgnR s).isSome], []⟩
  | _, _ => noSpec
theorem sgn_neg (r : List UInt8) : (sgnR (45 :: r)).getD 0 = -((numR r).getD 0) ∧ (sgnR (45 :: r)).isSome = ((numR r).isSome && decide (0 < (numR r).getD 0)) := by
  have hh : sgnR (45 :: r) = (numR r).bind fun n => if 0 < n then some (-n) else none := rfl
  rw [hh]
  cases e : numR r with
  | none => exact ⟨rfl, rfl⟩
  | some n =>
    have := (numR_to e).2.1
    simp only [Option.bind_some, Option.getD_some, Option.isSome_some, Bool.true_and]
    by_cases h : 0 < n
    · rw [if_pos h, decide_eq_true h]; exact ⟨rfl, rfl⟩
    · rw [if_neg h, decide_eq_false h]
      exact ⟨by simp; omega, rfl⟩
theorem ok_l01Signed : SpecOk Tryz.prog 249 s_sgnS := by
  intro args S h; unfold s_sgnS at h ⊢; (split at h <;> first | exact False.elim h | skip)
  dsimp only at h ⊢
  rename_i s
  match s, h with
  | [], h =>
    refine funW tabOk (E := [(171, s_numS)]) ⟨ok_l01Number, trivial⟩ [] (k := 0) (fn := Tryz.f249) rfl rfl rfl rfl rfl rfl ?_
    (repeat' ((try (conv => whnf)); first | (with_reducible first | refine And.intro ?_ ?_ | refine WX.of ?_) | exact zc | ((with_reducible refine VC.mk ?_); exact zw) | (with_reducible first | refine splitT ?_ | refine splitF ?_) | ((with_reducible refine splitM.mk (fun hsm => ?_) (fun hsm => ?_)) <;> (try exact zx)) | ((with_reducible refine splitB.mk (fun h => ?_) (fun h => ?_)) <;> (try simp only [zs, ne_eq] at h) <;> (try simp (disch := omega) only [w64] at h) <;> (try exact zx)) | (with_reducible intro hz; (try exact absurd hz (Nat.succ_ne_zero _)))))
  | x :: r, h =>
    have hx0 : (x :: r)[0]? = some x := rfl
    have hd : decide ((x :: r) = []) = false := decide_eq_false (by simp)
    have hd2 : decide ((x :: r) ≠ []) = true := decide_eq_true (by simp)
    have hb := numR_b r
    simp only [List.length_cons] at h
    by_cases hx : x = 45
    · subst hx
      obtain ⟨e1, e2⟩ := sgn_neg r
      rw [e1, e2]
      refine funW tabOk (E := [(171, s_numS)]) ⟨ok_l01Number, trivial⟩ [] (k := 0) (fn := Tryz.f249) rfl rfl rfl rfl rfl rfl ?_
      have hlen : (0 : Int) ≤ 1 ∧ (1 : Int) ≤ ((45 :: r).length : Int) := ⟨by decide, by rw [List.length_cons]; omega⟩
      have hle : (List.drop (Int.toNat 1) ((45 : UInt8) :: r)).length ≤ 1048576 := by show r.length ≤ 1048576; omega
      have hw : IntKind.i64.wrap (0 - (numR r).getD 0) = -(numR r).getD 0 := by rw [w64 (by omega)]; omega
      (repeat' ((try (conv => whnf)); first | (with_reducible first | refine And.intro ?_ ?_ | refine WX.of ?_) | exact zc | ((with_reducible refine VC.mk ?_); exact zw) | refine atL_w hx0 (by decide) ?_ | ((with_reducible refine splitT_of ?_ ?_); (focus (simp only [hd, hd2, Bool.not_true, Bool.not_false, decide_true, decide_false]; done))) | ((with_reducible refine splitF_of ?_ ?_); (focus (simp only [hd, hd2, Bool.not_true, Bool.not_false, decide_true, decide_false]; done))) | ((with_reducible refine VC.mk ?_); exact hlen) | ((with_reducible refine VC.mk ?_); exact hle) | (with_reducible first | refine splitT ?_ | refine splitF ?_) | ((with_reducible refine splitM.mk (fun hsm => ?_) (fun hsm => ?_)) <;> (try exact zx)) | ((with_reducible refine splitB.mk (fun h => ?_) (fun h => ?_)) <;> (try simp only [zs, ne_eq] at h) <;> (try simp (disch := omega) only [w64] at h) <;> (try exact zx)) | (with_reducible intro hz; (try exact absurd hz (Nat.succ_ne_zero _)))))
      all_goals first
        | exact absurd rfl ‹_›
        | (refine ⟨?_⟩
           show SV.tup [SV.int IntKind.i64 (IntKind.i64.wrap (0 - (numR r).getD 0)), SV.bool _] = _
           rw [hw]
           first
             | (rw [show (numR r).isSome = true from ‹_›]; rfl)
             | (rw [show (numR r).isSome = false from ‹_›]; rfl))
    · have e : sgnR (x :: r) = numR (x :: r) := by
        unfold sgnR
        split
        · rename_i h2; injection h2 with h2; exact absurd h2 hx
        · rfl
      rw [e]
      refine funW tabOk (E := [(171, s_numS)]) ⟨ok_l01Number, trivial⟩ [] (k := 0) (fn := Tryz.f249) rfl rfl rfl rfl rfl rfl ?_
      have hle : ((x :: r) : List UInt8).length ≤ 1048576 := by rw [List.length_cons]; exact h
      have hxn : ¬ (x.toNat : Int) = 45 := fun h9 => hx (UInt8.toNat_inj.1 (Int.ofNat.inj h9))
      (repeat' ((try (conv => whnf)); first | (with_reducible first | refine And.intro ?_ ?_ | refine WX.of ?_) | exact zc | ((with_reducible refine VC.mk ?_); exact zw) | refine atL_w hx0 (by decide) ?_ | ((with_reducible refine splitT_of ?_ ?_); (focus (simp only [hd, hd2, Bool.not_true, Bool.not_false, decide_true, decide_false]; done))) | ((with_reducible refine splitF_of ?_ ?_); (focus (simp only [hd, hd2, Bool.not_true, Bool.not_false, decide_true, decide_false]; done))) | ((with_reducible refine VC.mk ?_); exact hle) | (with_reducible first | refine splitT ?_ | refine splitF ?_) | ((with_reducible refine splitM.mk (fun hsm => ?_) (fun hsm => ?_)) <;> (try exact zx)) | ((with_reducible refine splitB.mk (fun h => ?_) (fun h => ?_)) <;> (try simp only [zs, ne_eq] at h) <;> (try simp (disch := omega) only [w64] at h) <;> (try exact zx)) | (with_reducible intro hz; (try exact absurd hz (Nat.succ_ne_zero _)))))
def s_rdFS : Spec := fun args S => match args, S with
  | [.str t], [] => ⟨t.length ≤ 1048576, .tup [.agg [.int .i64 (frJ t).1, .int .i64 (frJ t).2], .bool (frR t).isSome], []⟩
  | _, _ => noSpec
theorem frR_1 {t a : List UInt8} (h : splL 47 t = [a]) : (frR t).isSome = ((sgnR a).isSome && fOk ((sgnR a).getD 0) 1) ∧ frJ t = ((sgnR a).getD 0, 1) := by
  constructor
  · unfold frR
    rw [h]
    simp only
    cases e : sgnR a with
    | none => rfl
    | some p =>
      simp only [Option.bind_some, Option.isSome_some, Option.getD_some, Bool.true_and]
      by_cases hf : fOk p 1 = true
      · rw [if_pos hf, hf]; rfl
      · rw [if_neg hf, show fOk p 1 = false by simpa using hf]; rfl
  · unfold frJ; rw [h]
theorem frR_2 {t a b : List UInt8} (h : splL 47 t = [a, b]) : (frR t).isSome = (((sgnR a).isSome && (numR b).isSome && decide ((numR b).getD 0 ≠ 1)) && fOk ((sgnR a).getD 0) ((numR b).getD 0)) ∧ frJ t = ((sgnR a).getD 0, (numR b).getD 0) := by
  constructor
  · unfold frR
    rw [h]
    simp only
    cases e : sgnR a with
    | none => rfl
    | some p =>
      cases e2 : numR b with
      | none => rfl
      | some q =>
        simp only [Option.bind_some, Option.isSome_some, Option.getD_some, Bool.true_and]
        by_cases hf : q ≠ 1 ∧ fOk p q = true
        · rw [if_pos hf, decide_eq_true hf.1, hf.2]; rfl
        · rw [if_neg hf]
          by_cases hq : q = 1
          · rw [show decide (q ≠ 1) = false from decide_eq_false fun h => h hq]; rfl
          · rw [show fOk p q = false from by
              cases hh : fOk p q with
              | false => rfl
              | true => exact absurd ⟨hq, hh⟩ hf, Bool.and_false]; rfl
  · unfold frJ; rw [h]
theorem ok_l01Read : SpecOk Tryz.prog 170 s_rdFS := by
  intro args S h; unfold s_rdFS at h ⊢; (split at h <;> first | exact False.elim h | skip)
  dsimp only at h ⊢
  rename_i t
  have hs := fun x hx => splL_sub 47 t x hx
  have hll := splL_len 47 t
  match e : splL 47 t with
  | [] => exact absurd e (splL_ne _ _)
  | [a] =>
    have ha := hs a (by rw [e]; simp)
    obtain ⟨e1, e2⟩ := frR_1 e
    have hA0 : (splL 47 t)[0]? = some a := by rw [e]; rfl
    have hn : (splL 47 t).length = 1 := by rw [e]; rfl
    have k1 : decide (((splL 47 t).length : Int) > 2) = false := by rw [hn]; rfl
    have k2 : decide (((splL 47 t).length : Int) = 2) = false := by rw [hn]; rfl
    have k1 : decide (2 < ((splL 47 t).length : Int)) = false := by rw [hn]; rfl
    rw [e1, e2]
    refine funW tabOk (E := [(168, (s_splS 47)), (249, s_sgnS), (171, s_numS), (114, s_num), (192, s_fOk)]) ⟨(ok_l01Split 47), ok_l01Signed, ok_l01Number, ok_l01Whole, ok_l01Ok, trivial⟩ [(10, [(0, 1)])] (k := 0) (fn := Tryz.f170) rfl rfl rfl rfl rfl rfl ?_
    (repeat' ((try (conv => whnf)); first | (with_reducible first | refine And.intro ?_ ?_ | refine WX.of ?_) | exact zc | ((with_reducible refine VC.mk ?_); exact zw) | refine atL_w hA0 (by decide) ?_ | ((with_reducible refine splitT_of ?_ ?_); (focus (simp only [k1, k2, Bool.not_true, Bool.not_false, decide_true, decide_false]; done))) | ((with_reducible refine splitF_of ?_ ?_); (focus (simp only [k1, k2, Bool.not_true, Bool.not_false, decide_true, decide_false]; done))) | ((with_reducible refine VC.mk ?_); exact ⟨h, rfl⟩) | (with_reducible first | refine splitT ?_ | refine splitF ?_) | ((with_reducible refine splitM.mk (fun hsm => ?_) (fun hsm => ?_)) <;> (try exact zx)) | ((with_reducible refine splitB.mk (fun h => ?_) (fun h => ?_)) <;> (try simp only [zs, ne_eq] at h) <;> (try simp (disch := omega) only [w64] at h) <;> (try exact zx)) | (with_reducible intro hz; (try exact absurd hz (Nat.succ_ne_zero _)))))
    all_goals (refine ⟨?_⟩; dsimp only; clear e1 e2 hA0 hn k1 k2; simp [*]; done)
  | [a, b] =>
    have ha := hs a (by rw [e]; simp)
    have hb := hs b (by rw [e]; simp)
    obtain ⟨e1, e2⟩ := frR_2 e
    have hA0 : (splL 47 t)[0]? = some a := by rw [e]; rfl
    have hA1 : (splL 47 t)[1]? = some b := by rw [e]; rfl
    have hn : (splL 47 t).length = 2 := by rw [e]; rfl
    have k1 : decide (2 < ((splL 47 t).length : Int)) = false := by rw [hn]; rfl
    have k2 : decide (((splL 47 t).length : Int) = 2) = true := by rw [hn]; rfl
    rw [e1, e2]
    refine funW tabOk (E := [(168, (s_splS 47)), (249, s_sgnS), (171, s_numS), (114, s_num), (192, s_fOk)]) ⟨(ok_l01Split 47), ok_l01Signed, ok_l01Number, ok_l01Whole, ok_l01Ok, trivial⟩ [(10, [(0, 1)])] (k := 0) (fn := Tryz.f170) rfl rfl rfl rfl rfl rfl ?_
    (repeat' ((try (conv => whnf)); first | (with_reducible first | refine And.intro ?_ ?_ | refine WX.of ?_) | exact zc | ((with_reducible refine VC.mk ?_); exact zw) | refine atL_w hA0 (by decide) ?_ | refine atL_w hA1 (by decide) ?_ | ((with_reducible refine splitT_of ?_ ?_); (focus (simp only [k1, k2, Bool.not_true, Bool.not_false, decide_true, decide_false]; done))) | ((with_reducible refine splitF_of ?_ ?_); (focus (simp only [k1, k2, Bool.not_true, Bool.not_false, decide_true, decide_false]; done))) | ((with_reducible refine VC.mk ?_); exact ⟨h, rfl⟩) | (with_reducible first | refine splitT ?_ | refine splitF ?_) | ((with_reducible refine splitM.mk (fun hsm => ?_) (fun hsm => ?_)) <;> (try exact zx)) | ((with_reducible refine splitB.mk (fun h => ?_) (fun h => ?_)) <;> (try simp only [zs, ne_eq] at h) <;> (try simp (disch := omega) only [w64] at h) <;> (try exact zx)) | (with_reducible intro hz; (try exact absurd hz (Nat.succ_ne_zero _)))))
    all_goals (refine ⟨?_⟩; dsimp only; clear e1 e2 hA0 hA1 hn k1 k2; simp [*]; done)
  | a :: b :: c :: r =>
    have hn : 3 ≤ (splL 47 t).length := by rw [e]; simp
    have k1 : decide (2 < ((splL 47 t).length : Int)) = true := decide_eq_true (by omega)
    have e1 : frR t = none := by unfold frR; rw [e]
    have e2 : frJ t = (0, 0) := by unfold frJ; rw [e]
    rw [e1, e2]
    refine funW tabOk (E := [(168, (s_splS 47)), (249, s_sgnS), (171, s_numS), (114, s_num), (192, s_fOk)]) ⟨(ok_l01Split 47), ok_l01Signed, ok_l01Number, ok_l01Whole, ok_l01Ok, trivial⟩ [(10, [(0, 1)])] (k := 0) (fn := Tryz.f170) rfl rfl rfl rfl rfl rfl ?_
    (repeat' ((try (conv => whnf)); first | (with_reducible first | refine And.intro ?_ ?_ | refine WX.of ?_) | exact zc | ((with_reducible refine VC.mk ?_); exact zw) | ((with_reducible refine splitT_of ?_ ?_); (focus (simp only [k1, Bool.not_true, Bool.not_false, decide_true, decide_false]; done))) | ((with_reducible refine splitF_of ?_ ?_); (focus (simp only [k1, Bool.not_true, Bool.not_false, decide_true, decide_false]; done))) | ((with_reducible refine VC.mk ?_); exact ⟨h, rfl⟩) | (with_reducible first | refine splitT ?_ | refine splitF ?_) | ((with_reducible refine splitM.mk (fun hsm => ?_) (fun hsm => ?_)) <;> (try exact zx)) | ((with_reducible refine splitB.mk (fun h => ?_) (fun h => ?_)) <;> (try simp only [zs, ne_eq] at h) <;> (try simp (disch := omega) only [w64] at h) <;> (try exact zx)) | (with_reducible intro hz; (try exact absurd hz (Nat.succ_ne_zero _)))))
end Go.Proofs.YtamachahlhlhlaaGreatDoor.Eng
set_option linter.unusedVariables false
set_option linter.unusedSimpArgs false
namespace Go.Proofs.YtamachahlhlhlaaGreatDoor.Eng
open Go Go.RowKit
set_option maxRecDepth 100000
def s_rdSS : Spec := fun args S => match args, S with
  | [.str t], [] => ⟨t.length ≤ 1048576, .tup [.agg [.int .i64 (spnJ t).1.1, .int .i64 (spnJ t).1.2, .int .i64 (spnJ t).2.1, .int .i64 (spnJ t).2.2], .bool (spnR t).isSome], []⟩
  | _, _ => noSpec
theorem sp_at {t : List UInt8} {i : Nat} (h : ∀ j, j < i → t[j]? ≠ some 46) (hi : t[i]? = some 46) (hl : i + 1 < t.length) {b : UInt8} (hb : t[i + 1]? = some b) : spnJ t = (frJ (t.take i), frJ (t.drop (i + 2))) ∧ (spnR t).isSome = (((decide (b = 46) && (frR (t.take i)).isSome) && (frR (t.drop (i + 2))).isSome) && spOk (frJ (t.take i)).1 (frJ (t.take i)).2 (frJ (t.drop (i + 2))).1 (frJ (t.drop (i + 2))).2) := by
  have hd := dtw_at h hi
  have hdl : (dtw t).length = i := by rw [hd, List.length_take]; omega
  constructor
  · unfold spnJ
    rw [hdl, hd, if_pos hl]
  · unfold spnR
    rw [hdl, hd]
    by_cases hb2 : b = 46
    · rw [if_pos ⟨hl, by rw [hb, hb2]⟩, decide_eq_true hb2]
      cases e1 : frR (t.take i) with
      | none => rfl
      | some x =>
        cases e2 : frR (t.drop (i + 2)) with
        | none => simp
        | some y =>
          rw [frJ_eq e1, frJ_eq e2]
          simp only [Option.bind_some, Option.isSome_some, Bool.true_and]
          by_cases hs : spOk x.1 x.2 y.1 y.2 = true
          · rw [if_pos hs, hs]; rfl
          · rw [if_neg hs, show spOk x.1 x.2 y.1 y.2 = false by simpa using hs]; rfl
    · rw [if_neg (fun hh => hb2 (by have := hh.2; rw [hb] at this; exact Option.some.inj this)), decide_eq_false hb2]; rfl
theorem sp_end {t : List UInt8} {i : Nat} (h : ∀ j, j < i → t[j]? ≠ some 46) (hi : i ≤ t.length) (hl : t.length ≤ i + 1) : spnJ t = ((0, 0), (0, 0)) ∧ spnR t = none := by
  have hd := dtw_len h hi
  constructor
  · unfold spnJ; rw [if_neg (by omega)]
  · unfold spnR; rw [if_neg (by omega)]
theorem ok_l01ReadSpan : SpecOk Tryz.prog 169 s_rdSS := by
  intro args S h; unfold s_rdSS at h ⊢; (split at h <;> first | exact False.elim h | skip)
  dsimp only at h ⊢
  rename_i t
  refine funW tabOk (E := [(170, s_rdFS), (248, s_l01Span)]) ⟨ok_l01Read, ok_l01Span, trivial⟩ [(8, [(0, 1)])] (k := 0) (fn := Tryz.f169) rfl rfl rfl rfl rfl rfl ?_
  (repeat' ((try (conv => whnf)); first | (with_reducible first | refine And.intro ?_ ?_ | refine WX.of ?_) | exact zc | ((with_reducible refine VC.mk ?_); exact zw) | (with_reducible first | refine splitT ?_ | refine splitF ?_) | ((with_reducible refine splitM.mk (fun hsm => ?_) (fun hsm => ?_)) <;> (try exact zx)) | ((with_reducible refine splitB.mk (fun h => ?_) (fun h => ?_)) <;> (try simp only [zs, ne_eq] at h) <;> (try simp (disch := omega) only [w64] at h) <;> (try exact zx)) | (with_reducible intro hz; (try exact absurd hz (Nat.succ_ne_zero _)))))
  refine loopW tabOk (E := [(170, s_rdFS), (248, s_l01Span)]) ⟨ok_l01Read, ok_l01Span, trivial⟩ [(8, [(0, 1)])] (σ := Nat) (fun i => [(0, .str t), (2, .ptr 0 0 0), (4, .int .i64 i)]) (fun i => [.arr (.prod (.prod (.int .i64) (.int .i64)) (.prod (.int .i64) (.int .i64))) [((0, 0), (0, 0))] 0 true]) (fun i => t.length - i) (fun i => i ≤ t.length ∧ ∀ j, j < i → t[j]? ≠ some 46) 0 ⟨Nat.zero_le _, fun j hj => by omega⟩ ?_ ?_
  · (repeat' ((try (conv => whnf)); first | (with_reducible first | refine And.intro ?_ ?_ | refine WX.of ?_) | exact zc | ((with_reducible refine VC.mk ?_); exact zw) | (with_reducible first | refine splitT ?_ | refine splitF ?_) | ((with_reducible refine splitM.mk (fun hsm => ?_) (fun hsm => ?_)) <;> (try exact zx)) | ((with_reducible refine splitB.mk (fun h => ?_) (fun h => ?_)) <;> (try simp only [zs, ne_eq] at h) <;> (try simp (disch := omega) only [w64] at h) <;> (try exact zx)) | (with_reducible intro hz; (try exact absurd hz (Nat.succ_ne_zero _)))))
  · intro i ⟨hi, hp⟩
    by_cases hlt : i + 1 < t.length
    · obtain ⟨a, ha⟩ := get_some (l := t) (i := i) (by omega)
      obtain ⟨b, hb⟩ := get_some (l := t) (i := i + 1) hlt
      by_cases h46 : a = 46
      · subst h46
        obtain ⟨e1, e2⟩ := sp_at hp ha hlt hb
        rw [e1, e2]
        have ht1 : (t.take ((i : Nat) : Int).toNat).length ≤ 1048576 := by rw [List.length_take]; omega
        have hw2 : (IntKind.i64.wrap ((i : Int) + 2)).toNat = i + 2 := by rw [w64 (by omega)]; omega
        have hw1 : (IntKind.i64.wrap ((i : Int) + 1)).toNat = i + 1 := by rw [w64 (by omega)]; omega
        have ht2 : (t.drop (IntKind.i64.wrap ((i : Int) + 2)).toNat).length ≤ 1048576 := by rw [List.length_drop]; omega
        have hnn : ¬ ¬ (((46 : UInt8).toNat : Nat) : Int) = 46 := fun h => h rfl
        have kb : decide ((b.toNat : Int) = 46) = decide (b = 46) := by
          by_cases h : b = 46
          · subst h; rfl
          · rw [decide_eq_false h]; exact decide_eq_false fun h2 => h (UInt8.toNat_inj.1 (Int.ofNat.inj h2))
        have ka : (frR (t.take ((i : Nat) : Int).toNat)).isSome = (frR (t.take i)).isSome := by rw [Int.toNat_natCast]
        have kc : (frR (t.drop (IntKind.i64.wrap ((i : Int) + 2)).toNat)).isSome = (frR (t.drop (i + 2))).isSome := by rw [hw2]
        generalize hq1 : decide (b = 46) = q1 at *
        generalize hq2 : (frR (t.take i)).isSome = q2 at *
        generalize hq3 : (frR (t.drop (i + 2))).isSome = q3 at *
        cases q1 <;> cases q2 <;> cases q3
        all_goals
          (repeat' ((try (conv => whnf)); first | (with_reducible first | refine And.intro ?_ ?_ | refine WX.of ?_) | exact zc | ((with_reducible refine VC.mk ?_); exact zw) | with_reducible refine atL_n ha ?_ | with_reducible refine atL_0 ha ?_ | refine atL_w hb hw1 ?_ | ((with_reducible refine VC.mk ?_); exact ht1) | ((with_reducible refine VC.mk ?_); exact ht2) | ((with_reducible refine splitT_of ?_ ?_); (focus (simp only [kb, ka, kc, Bool.not_true, Bool.not_false, decide_true, decide_false]; done))) | ((with_reducible refine splitF_of ?_ ?_); (focus (simp only [kb, ka, kc, Bool.not_true, Bool.not_false, decide_true, decide_false]; done))) | (with_reducible first | refine splitT ?_ | refine splitF ?_) | ((with_reducible refine splitM.mk (fun hsm => ?_) (fun hsm => ?_)) <;> (try exact zx)) | ((with_reducible refine splitB.mk (fun h => ?_) (fun h => ?_)) <;> (try simp only [zs, ne_eq] at h) <;> (try simp (disch := omega) only [w64] at h) <;> (try exact zx)) | (with_reducible intro hz; (try exact absurd hz (Nat.succ_ne_zero _)))))
        all_goals first
          | exact absurd ‹_› hnn
          | exact VC.mk (by dsimp only; rw [hw2, Int.toNat_natCast]; rfl)
          | skip
      · have hn : ¬ (a.toNat : Int) = 46 := fun h => h46 (UInt8.toNat_inj.1 (Int.ofNat.inj h))
        (repeat' ((try (conv => whnf)); first | (with_reducible first | refine And.intro ?_ ?_ | refine WX.of ?_) | exact zc | ((with_reducible refine VC.mk ?_); exact zw) | with_reducible refine atL_n ha ?_ | with_reducible refine atL_0 ha ?_ | (with_reducible first | refine splitT ?_ | refine splitF ?_) | ((with_reducible refine splitM.mk (fun hsm => ?_) (fun hsm => ?_)) <;> (try exact zx)) | ((with_reducible refine splitB.mk (fun h => ?_) (fun h => ?_)) <;> (try simp only [zs, ne_eq] at h) <;> (try simp (disch := omega) only [w64] at h) <;> (try exact zx)) | (with_reducible intro hz; (try exact absurd hz (Nat.succ_ne_zero _)))))
        refine ⟨i + 1, by omega, ⟨by omega, fun j hj => ?_⟩, ?_⟩
        · by_cases hji : j = i
          · subst hji; rw [ha]; exact fun h => h46 (Option.some.inj h)
          · exact hp j (by omega)
        · (repeat' ((try (conv => whnf)); first | (with_reducible first | refine And.intro ?_ ?_ | refine WX.of ?_) | exact zc | ((with_reducible refine VC.mk ?_); exact zw) | (with_reducible first | refine splitT ?_ | refine splitF ?_) | ((with_reducible refine splitM.mk (fun hsm => ?_) (fun hsm => ?_)) <;> (try exact zx)) | ((with_reducible refine splitB.mk (fun h => ?_) (fun h => ?_)) <;> (try simp only [zs, ne_eq] at h) <;> (try simp (disch := omega) only [w64] at h) <;> (try exact zx)) | (with_reducible intro hz; (try exact absurd hz (Nat.succ_ne_zero _)))))
    · obtain ⟨e1, e2⟩ := sp_end hp hi (by omega)
      rw [e1, e2]
      (repeat' ((try (conv => whnf)); first | (with_reducible first | refine And.intro ?_ ?_ | refine WX.of ?_) | exact zc | ((with_reducible refine VC.mk ?_); exact zw) | (with_reducible first | refine splitT ?_ | refine splitF ?_) | ((with_reducible refine splitM.mk (fun hsm => ?_) (fun hsm => ?_)) <;> (try exact zx)) | ((with_reducible refine splitB.mk (fun h => ?_) (fun h => ?_)) <;> (try simp only [zs, ne_eq] at h) <;> (try simp (disch := omega) only [w64] at h) <;> (try exact zx)) | (with_reducible intro hz; (try exact absurd hz (Nat.succ_ne_zero _)))))
end Go.Proofs.YtamachahlhlhlaaGreatDoor.Eng
set_option linter.unusedVariables false
set_option linter.unusedSimpArgs false
namespace Go.Proofs.YtamachahlhlhlaaGreatDoor.Eng
open Go Go.RowKit
set_option maxRecDepth 100000
/-- One contract or another, by the arguments. -/
def s_or (c : List SV → Bool) (s1 s2 : Spec) : Spec := fun args S => match c args with
  | true => s1 args S
  | false => s2 args S
theorem ok_or {P : Program} {f : FuncId} {c : List SV → Bool} {s1 s2 : Spec} (h1 : SpecOk P f s1) (h2 : SpecOk P f s2) : SpecOk P f (s_or c s1 s2) := by
  intro args S h
  unfold s_or at h ⊢
  cases hc : c args with
  | true => rw [hc] at h; exact h1 args S h
  | false => rw [hc] at h; exact h2 args S h
def isU (n : Int) : List SV → Bool
  | [_, .int .u8 x] => decide (x = n)
  | _ => false
def s_splA : Spec := s_or (isU 10) (s_splS 10) (s_or (isU 32) (s_splS 32) (s_splS 47))
theorem ok_splA : SpecOk Tryz.prog 168 s_splA := ok_or (ok_l01Split 10) (ok_or (ok_l01Split 32) (ok_l01Split 47))
theorem wU {n : Nat} (h : 1 ≤ n ∧ n ≤ 1048577) : IntKind.i64.wrap ((n : Int) - 1) = (n : Int) - 1 := w64 (by omega)
end Go.Proofs.YtamachahlhlhlaaGreatDoor.Eng
set_option linter.unusedVariables false
set_option linter.unusedSimpArgs false
namespace Go.Proofs.YtamachahlhlhlaaGreatDoor.Eng
open Go Go.RowKit
set_option maxRecDepth 100000
theorem chFS_inv {A : List StT} {ln : List UInt8} {a : StT} (h : chFS A ln = some a) : ((splL 32 ln).length = 6 ∧ chG (splL 32 ln) = true ∧ (0 ≤ frmR A (wR (splL 32 ln) 1) ∨ wR (splL 32 ln) 1 = [45])) ∧ a = chW (frmR A (wR (splL 32 ln) 1)) numJ frJ spnJ (splL 32 ln) := by
  unfold chFS at h
  split at h
  · rename_i h6
    injection h with h
    exact ⟨h6, h.symm⟩
  · cases h
theorem chG_at {W : List (List UInt8)} (h : chG W = true) : (spnR (wR W 2)).isSome = true ∧ (frR (wR W 3)).isSome = true ∧ (numR (wR W 4)).isSome = true ∧ (numR (wR W 5)).isSome = true := by
  unfold chG at h
  simp only [Bool.and_eq_true] at h
  exact ⟨h.1.1, h.1.2, h.2.1, h.2.2⟩
theorem frm_em (A : List StT) (w : List UInt8) (k : Nat) : frmS A w k < 0 ∨ ¬ frmS A w k < 0 := Decidable.em _
def s_chS1 (R : List StT) : Spec := fun args S => match args, S with
  | [.str t], [] => ⟨t.length ≤ 1048576 ∧ chtR t = some R, .tup [.sl 0 0 R.length 0, .int .i64 0], [.arr (.prod .str (.prod (.int .i64) (.prod (.prod (.prod (.int .i64) (.int .i64)) (.prod (.int .i64) (.int .i64))) (.prod (.prod (.int .i64) (.int .i64)) (.prod (.int .i64) (.int .i64)))))) R 10 true]⟩
  | _, _ => noSpec
set_option maxHeartbeats 3200000 in
theorem ok_ReadChainS1 (R : List StT) : SpecOk Tryz.prog 68 (s_chS1 R) := by
  intro args S h; unfold s_chS1 at h ⊢; (split at h <;> first | exact False.elim h | skip)
  dsimp only at h ⊢
  rename_i t
  obtain ⟨h1, hR⟩ := h
  obtain ⟨hB, hT⟩ := chtR_to hR
  unfold chtR at hR
  by_cases hc : (splL 10 t).getLast? = some []
  rotate_left 1
  · rw [if_neg hc] at hR; cases hR
  rw [if_pos hc] at hR
  have hO : foL chFS [] (splL 10 t).dropLast = some R := by
    cases e : foL chFS [] (splL 10 t).dropLast with
    | none => rw [e] at hR; cases hR
    | some R' =>
      rw [e] at hR
      simp only at hR
      by_cases h9 : chB R' = true ∧ chT R' R' = t
      · rw [if_pos h9] at hR; exact hR
      · rw [if_neg h9] at hR; cases hR
  have hm := (foL_len hO).1
  rw [List.length_dropLast, List.length_nil, Nat.zero_add] at hm
  have hne := splL_ne 10 t
  have hl : 1 ≤ (splL 10 t).length := by
    cases e : splL 10 t with
    | nil => exact absurd e hne
    | cons a r => simp
  have hlm := splL_len 10 t
  have hw := wU (n := (splL 10 t).length) (by omega)
  have hix : 0 + (IntKind.i64.wrap (((splL 10 t).length : Int) - 1)).toNat = (splL 10 t).length - 1 := by rw [hw]; omega
  have hgl : (splL 10 t)[(splL 10 t).length - 1]? = some [] := by rw [← List.getLast?_eq_getElem?]; exact hc
  have hsR : seg R 0 R.length = R := seg_full rfl
  refine funW tabOk (E := [(168, s_splA), (171, s_numS), (170, s_rdFS), (169, s_rdSS), (172, s_l05Ok), (173, s_l05Text)]) ⟨ok_splA, ok_l01Number, ok_l01Read, ok_l01ReadSpan, ok_l05Ok, ok_l05Text, trivial⟩ [] (k := 0) (fn := Tryz.f68) rfl rfl rfl rfl rfl rfl ?_
  (repeat' ((try (conv => whnf)); first | (with_reducible first | refine And.intro ?_ ?_ | refine WX.of ?_) | exact zc | ((with_reducible refine VC.mk ?_); exact zw) | with_reducible refine atL_e hix hgl ?_ | ((with_reducible refine VC.mk ?_); exact ⟨h1, rfl⟩) | (with_reducible first | refine splitT ?_ | refine splitF ?_) | ((with_reducible refine splitM.mk (fun hsm => ?_) (fun hsm => ?_)) <;> (try exact zx)) | ((with_reducible refine splitB.mk (fun h => ?_) (fun h => ?_)) <;> (try simp only [zs, ne_eq] at h) <;> (try simp (disch := omega) only [w64] at h) <;> (try exact zx)) | (with_reducible intro hz; (try exact absurd hz (Nat.succ_ne_zero _)))))
  refine loopW tabOk (E := [(168, s_splA), (171, s_numS), (170, s_rdFS), (169, s_rdSS), (172, s_l05Ok), (173, s_l05Text)]) ⟨ok_splA, ok_l01Number, ok_l01Read, ok_l01ReadSpan, ok_l05Ok, ok_l05Text, trivial⟩ [] (σ := Nat) (fun i => [(0, .str t), (4, .sl 0 0 (splL 10 t).length 0), (5, .sl 1 0 i 0), (6, .int .i64 i)]) (fun i => [.arr .str (splL 10 t) 1 true, .arr (.prod .str (.prod (.int .i64) (.prod (.prod (.prod (.int .i64) (.int .i64)) (.prod (.int .i64) (.int .i64))) (.prod (.prod (.int .i64) (.int .i64)) (.prod (.int .i64) (.int .i64)))))) (R.take i) 10 true]) (fun i => (splL 10 t).length - 1 - i) (fun i => i ≤ (splL 10 t).length - 1) 0 (Nat.zero_le _) ?_ ?_
  · (repeat' ((try (conv => whnf)); first | (with_reducible first | refine And.intro ?_ ?_ | refine WX.of ?_) | exact zc | ((with_reducible refine VC.mk ?_); exact zw) | (with_reducible first | refine splitT ?_ | refine splitF ?_) | ((with_reducible refine splitM.mk (fun hsm => ?_) (fun hsm => ?_)) <;> (try exact zx)) | ((with_reducible refine splitB.mk (fun h => ?_) (fun h => ?_)) <;> (try simp only [zs, ne_eq] at h) <;> (try simp (disch := omega) only [w64] at h) <;> (try exact zx)) | (with_reducible intro hz; (try exact absurd hz (Nat.succ_ne_zero _)))))
  · intro i hi
    have hlen : (R.take i).length = i := by rw [List.length_take]; omega
    by_cases hlt : i < (splL 10 t).length - 1
    · obtain ⟨ln, hln⟩ := get_some (l := splL 10 t) (i := i) (by omega)
      have hld : (splL 10 t).dropLast[i]? = some ln := by rw [List.getElem?_dropLast, if_pos hlt]; exact hln
      obtain ⟨a, ha, hf⟩ := foL_at hO hld
      obtain ⟨⟨hWn, hG, hF⟩, rfl⟩ := chFS_inv hf
      obtain ⟨q1, q2, q3, q4⟩ := chG_at hG
      have hl1 := splL_sub 10 t ln (List.mem_of_getElem? hln)
      have hat : ∀ i, i < 6 → (splL 32 ln)[i]? = some (wR (splL 32 ln) i) := fun i hi => wR_at (by omega)
      have hsz : ∀ i, i < 6 → (wR (splL 32 ln) i).length ≤ 1048576 := fun i hi => Nat.le_trans (wR_len (by omega)) (by omega)
      have a0 := hat 0 (by decide)
      have a1 := hat 1 (by decide)
      have a2 := hat 2 (by decide)
      have a3 := hat 3 (by decide)
      have a4 := hat 4 (by decide)
      have a5 := hat 5 (by decide)
      have z2 := hsz 2 (by decide)
      have z3 := hsz 3 (by decide)
      have z4 := hsz 4 (by decide)
      have z5 := hsz 5 (by decide)
      have hlnl : ln.length ≤ 1048576 := by omega
      have hWl : decide (((splL 32 ln).length : Int) ≠ 6) = false := by rw [hWn]; rfl
      have hFr : frmR (R.take i) (wR (splL 32 ln) 1) = frmS (R.take i) (wR (splL 32 ln) 1) i := by unfold frmR; rw [hlen]
      (repeat' ((try (conv => whnf)); first | (with_reducible first | refine And.intro ?_ ?_ | refine WX.of ?_) | exact zc | ((with_reducible refine VC.mk ?_); exact zw) | with_reducible refine atL_0 hln ?_ | refine atL_w a0 (by decide) ?_ | ((with_reducible refine splitT_of ?_ ?_); (focus (simp only [hWl, Bool.not_true, Bool.not_false, decide_true, decide_false]; done))) | ((with_reducible refine splitF_of ?_ ?_); (focus (simp only [hWl, Bool.not_true, Bool.not_false, decide_true, decide_false]; done))) | ((with_reducible refine VC.mk ?_); exact ⟨hlnl, rfl⟩) | (with_reducible first | refine splitT ?_ | refine splitF ?_) | ((with_reducible refine splitM.mk (fun hsm => ?_) (fun hsm => ?_)) <;> (try exact zx)) | ((with_reducible refine splitB.mk (fun h => ?_) (fun h => ?_)) <;> (try simp only [zs, ne_eq] at h) <;> (try simp (disch := omega) only [w64] at h) <;> (try exact zx)) | (with_reducible intro hz; (try exact absurd hz (Nat.succ_ne_zero _)))))
      refine loopW tabOk (E := [(168, s_splA), (171, s_numS), (170, s_rdFS), (169, s_rdSS), (172, s_l05Ok), (173, s_l05Text)]) ⟨ok_splA, ok_l01Number, ok_l01Read, ok_l01ReadSpan, ok_l05Ok, ok_l05Text, trivial⟩ [] (σ := Nat) (fun k => [(0, .str t), (4, .sl 0 0 (splL 10 t).length 0), (5, .sl 1 0 i 0), (6, .int .i64 i), (7, .sl 2 0 (splL 32 ln).length 0), (8, .ptr 3 0 0), (9, .int .i64 k)]) (fun k => [.arr .str (splL 10 t) 1 true, .arr (.prod .str (.prod (.int .i64) (.prod (.prod (.prod (.int .i64) (.int .i64)) (.prod (.int .i64) (.int .i64))) (.prod (.prod (.int .i64) (.int .i64)) (.prod (.int .i64) (.int .i64)))))) (R.take i) 10 true, .arr .str (splL 32 ln) 1 true, .arr (.prod .str (.prod (.int .i64) (.prod (.prod (.prod (.int .i64) (.int .i64)) (.prod (.int .i64) (.int .i64))) (.prod (.prod (.int .i64) (.int .i64)) (.prod (.int .i64) (.int .i64)))))) [(wR (splL 32 ln) 0, frmS (R.take i) (wR (splL 32 ln) 1) k, ((0, 0), 0, 0), (0, 0), 0, 0)] 0 true]) (fun k => i - k) (fun k => k ≤ i) 0 (Nat.zero_le _) ?_ ?_
      · (repeat' ((try (conv => whnf)); first | (with_reducible first | refine And.intro ?_ ?_ | refine WX.of ?_) | exact zc | ((with_reducible refine VC.mk ?_); exact zw) | (with_reducible first | refine splitT ?_ | refine splitF ?_) | ((with_reducible refine splitM.mk (fun hsm => ?_) (fun hsm => ?_)) <;> (try exact zx)) | ((with_reducible refine splitB.mk (fun h => ?_) (fun h => ?_)) <;> (try simp only [zs, ne_eq] at h) <;> (try simp (disch := omega) only [w64] at h) <;> (try exact zx)) | (with_reducible intro hz; (try exact absurd hz (Nat.succ_ne_zero _)))))
      · intro k hk
        by_cases hki : k < i
        · obtain ⟨⟨nm0, fr0, ⟨⟨p0, q0⟩, p0', q0'⟩, ⟨dp0, dq0⟩, md0, gd0⟩, hb⟩ := get_some (l := R.take i) (i := k) (by omega)
          have hs : frmS (R.take i) (wR (splL 32 ln) 1) (k + 1) = if nm0 = wR (splL 32 ln) 1 then (k : Int) else frmS (R.take i) (wR (splL 32 ln) 1) k := by
            simp only [frmS]
            rw [stAt_e hb]
          (repeat' ((try (conv => whnf)); first | (with_reducible first | refine And.intro ?_ ?_ | refine WX.of ?_) | exact zc | ((with_reducible refine VC.mk ?_); exact zw) | with_reducible refine atL_0 hb ?_ | refine atL_w a1 (by decide) ?_ | (with_reducible first | refine splitT ?_ | refine splitF ?_) | ((with_reducible refine splitM.mk (fun hsm => ?_) (fun hsm => ?_)) <;> (try exact zx)) | ((with_reducible refine splitB.mk (fun h => ?_) (fun h => ?_)) <;> (try simp only [zs, ne_eq] at h) <;> (try simp (disch := omega) only [w64] at h) <;> (try exact zx)) | (with_reducible intro hz; (try exact absurd hz (Nat.succ_ne_zero _)))))
          all_goals
            refine ⟨k + 1, by omega, by omega, ?_⟩
            (repeat' ((try (conv => whnf)); first | (with_reducible first | refine And.intro ?_ ?_ | refine WX.of ?_) | exact zc | ((with_reducible refine VC.mk ?_); exact zw) | (with_reducible first | refine splitT ?_ | refine splitF ?_) | ((with_reducible refine splitM.mk (fun hsm => ?_) (fun hsm => ?_)) <;> (try exact zx)) | ((with_reducible refine splitB.mk (fun h => ?_) (fun h => ?_)) <;> (try simp only [zs, ne_eq] at h) <;> (try simp (disch := omega) only [w64] at h) <;> (try exact zx)) | (with_reducible intro hz; (try exact absurd hz (Nat.succ_ne_zero _)))))
          · exact ⟨by rw [hs, if_pos (by assumption)]; rfl⟩
          · exact ⟨by rw [hs, if_neg (by assumption)]⟩
        · obtain rfl : k = i := by omega
          have ha2 : R[k]? = some (wR (splL 32 ln) 0, frmS (R.take k) (wR (splL 32 ln) 1) k, spnJ (wR (splL 32 ln) 2), frJ (wR (splL 32 ln) 3), (numR (wR (splL 32 ln) 4)).getD 0, (numR (wR (splL 32 ln) 5)).getD 0) := by rw [← hFr]; exact ha
          rcases frm_em (R.take k) (wR (splL 32 ln) 1) k with hneg | hneg
          · have k45 : decide (wR (splL 32 ln) 1 ≠ [45]) = false := decide_eq_false fun h => h (by rcases hF with hF | hF; rw [hFr] at hF; omega; exact hF)
            have kF : decide (frmS (R.take k) (wR (splL 32 ln) 1) k < 0) = true := decide_eq_true hneg
            (repeat' ((try (conv => whnf)); first | (with_reducible first | refine And.intro ?_ ?_ | refine WX.of ?_) | exact zc | ((with_reducible refine VC.mk ?_); exact zw) | refine atL_w a1 (by decide) ?_ | refine atL_w a2 (by decide) ?_ | refine atL_w a3 (by decide) ?_ | refine atL_w a4 (by decide) ?_ | refine atL_w a5 (by decide) ?_ | ((with_reducible refine VC.mk ?_); exact z2) | ((with_reducible refine VC.mk ?_); exact z3) | ((with_reducible refine VC.mk ?_); exact z4) | ((with_reducible refine VC.mk ?_); exact z5) | ((with_reducible refine splitT_of ?_ ?_); (focus (simp only [q1, q2, q3, q4, Bool.not_true, k45, kF, Bool.not_true, Bool.not_false, decide_true, decide_false]; done))) | ((with_reducible refine splitF_of ?_ ?_); (focus (simp only [q1, q2, q3, q4, Bool.not_true, k45, kF, Bool.not_true, Bool.not_false, decide_true, decide_false]; done))) | (with_reducible first | refine splitT ?_ | refine splitF ?_) | ((with_reducible refine splitM.mk (fun hsm => ?_) (fun hsm => ?_)) <;> (try exact zx)) | ((with_reducible refine splitB.mk (fun h => ?_) (fun h => ?_)) <;> (try simp only [zs, ne_eq] at h) <;> (try simp (disch := omega) only [w64] at h) <;> (try exact zx)) | (with_reducible intro hz; (try exact absurd hz (Nat.succ_ne_zero _)))))
            refine ⟨k + 1, by omega, by omega, ?_⟩
            (repeat' ((try (conv => whnf)); first | (with_reducible first | refine And.intro ?_ ?_ | refine WX.of ?_) | exact zc | ((with_reducible refine VC.mk ?_); exact zw) | (with_reducible first | refine splitT ?_ | refine splitF ?_) | ((with_reducible refine splitM.mk (fun hsm => ?_) (fun hsm => ?_)) <;> (try exact zx)) | ((with_reducible refine splitB.mk (fun h => ?_) (fun h => ?_)) <;> (try simp only [zs, ne_eq] at h) <;> (try simp (disch := omega) only [w64] at h) <;> (try exact zx)) | (with_reducible intro hz; (try exact absurd hz (Nat.succ_ne_zero _)))))
            all_goals exact ⟨app_take ha2⟩
          · have kF : decide (frmS (R.take k) (wR (splL 32 ln) 1) k < 0) = false := decide_eq_false hneg
            (repeat' ((try (conv => whnf)); first | (with_reducible first | refine And.intro ?_ ?_ | refine WX.of ?_) | exact zc | ((with_reducible refine VC.mk ?_); exact zw) | refine atL_w a1 (by decide) ?_ | refine atL_w a2 (by decide) ?_ | refine atL_w a3 (by decide) ?_ | refine atL_w a4 (by decide) ?_ | refine atL_w a5 (by decide) ?_ | ((with_reducible refine VC.mk ?_); exact z2) | ((with_reducible refine VC.mk ?_); exact z3) | ((with_reducible refine VC.mk ?_); exact z4) | ((with_reducible refine VC.mk ?_); exact z5) | ((with_reducible refine splitT_of ?_ ?_); (focus (simp only [q1, q2, q3, q4, Bool.not_true, kF, Bool.not_true, Bool.not_false, decide_true, decide_false]; done))) | ((with_reducible refine splitF_of ?_ ?_); (focus (simp only [q1, q2, q3, q4, Bool.not_true, kF, Bool.not_true, Bool.not_false, decide_true, decide_false]; done))) | (with_reducible first | refine splitT ?_ | refine splitF ?_) | ((with_reducible refine splitM.mk (fun hsm => ?_) (fun hsm => ?_)) <;> (try exact zx)) | ((with_reducible refine splitB.mk (fun h => ?_) (fun h => ?_)) <;> (try simp only [zs, ne_eq] at h) <;> (try simp (disch := omega) only [w64] at h) <;> (try exact zx)) | (with_reducible intro hz; (try exact absurd hz (Nat.succ_ne_zero _)))))
            refine ⟨k + 1, by omega, by omega, ?_⟩
            (repeat' ((try (conv => whnf)); first | (with_reducible first | refine And.intro ?_ ?_ | refine WX.of ?_) | exact zc | ((with_reducible refine VC.mk ?_); exact zw) | (with_reducible first | refine splitT ?_ | refine splitF ?_) | ((with_reducible refine splitM.mk (fun hsm => ?_) (fun hsm => ?_)) <;> (try exact zx)) | ((with_reducible refine splitB.mk (fun h => ?_) (fun h => ?_)) <;> (try simp only [zs, ne_eq] at h) <;> (try simp (disch := omega) only [w64] at h) <;> (try exact zx)) | (with_reducible intro hz; (try exact absurd hz (Nat.succ_ne_zero _)))))
            all_goals exact ⟨app_take ha2⟩
    · obtain rfl : i = (splL 10 t).length - 1 := by omega
      have hn30 := ch_len hB
      have htk : R.take ((splL 10 t).length - 1) = R := List.take_of_length_le (by omega)
      have hsg : seg R 0 ((splL 10 t).length - 1) = R := seg_full hm
      have hB2 : chB (seg R 0 ((splL 10 t).length - 1)) = true := by rw [hsg]; exact hB
      have hT2 : chT (seg R 0 ((splL 10 t).length - 1)) (seg R 0 ((splL 10 t).length - 1)) = t := by rw [hsg]; exact hT
      have hnm : ∀ (j : Nat) (a : StT), R[j]? = some a → a.1.length < 9223372036854775808 := fun j a ha => by have := wd12 (ch_ok hB ha).nm; omega
      rw [htk]
      (repeat' ((try (conv => whnf)); first | (with_reducible first | refine And.intro ?_ ?_ | refine WX.of ?_) | exact zc | ((with_reducible refine VC.mk ?_); exact zw) | ((with_reducible refine VC.mk ?_); exact ⟨⟨by omega, by omega⟩, hnm⟩) | ((with_reducible refine VC.mk ?_); exact ⟨⟨by omega, by omega⟩, hB2⟩) | ((with_reducible refine splitT_of ?_ ?_); (focus (simp only [hB2, Bool.not_true, Bool.not_true, Bool.not_false, decide_true, decide_false]; done))) | ((with_reducible refine splitF_of ?_ ?_); (focus (simp only [hB2, Bool.not_true, Bool.not_true, Bool.not_false, decide_true, decide_false]; done))) | ((with_reducible refine splitT_of ?_ ?_); (focus (simp only [hT2, ne_eq, eq_self, not_true_eq_false, decide_false, Bool.not_true, Bool.not_false, decide_true, decide_false]; done))) | ((with_reducible refine splitF_of ?_ ?_); (focus (simp only [hT2, ne_eq, eq_self, not_true_eq_false, decide_false, Bool.not_true, Bool.not_false, decide_true, decide_false]; done))) | (with_reducible first | refine splitT ?_ | refine splitF ?_) | ((with_reducible refine splitM.mk (fun hsm => ?_) (fun hsm => ?_)) <;> (try exact zx)) | ((with_reducible refine splitB.mk (fun h => ?_) (fun h => ?_)) <;> (try simp only [zs, ne_eq] at h) <;> (try simp (disch := omega) only [w64] at h) <;> (try exact zx)) | (with_reducible intro hz; (try exact absurd hz (Nat.succ_ne_zero _)))))
      exact ⟨by rw [hm]⟩
def s_chS0 : Spec := fun args S => match args, S with
  | [.str t], [] => ⟨t.length ≤ 1048576 ∧ chtR t = none, .tup [.sl 0 0 0 0, .int .i64 5], [.arr (.prod .str (.prod (.int .i64) (.prod (.prod (.prod (.int .i64) (.int .i64)) (.prod (.int .i64) (.int .i64))) (.prod (.prod (.int .i64) (.int .i64)) (.prod (.int .i64) (.int .i64)))))) [] 10 true]⟩
  | _, _ => noSpec
set_option maxHeartbeats 6400000 in
theorem ok_ReadChainS0 : SpecOk Tryz.prog 68 s_chS0 := by
  intro args S h; unfold s_chS0 at h ⊢; (split at h <;> first | exact False.elim h | skip)
  dsimp only at h ⊢
  rename_i t
  obtain ⟨h1, hR⟩ := h
  unfold chtR at hR
  have hne := splL_ne 10 t
  have hl : 1 ≤ (splL 10 t).length := by
    cases e : splL 10 t with
    | nil => exact absurd e hne
    | cons a r => simp
  have hlm := splL_len 10 t
  have hw := wU (n := (splL 10 t).length) (by omega)
  have hix : 0 + (IntKind.i64.wrap (((splL 10 t).length : Int) - 1)).toNat = (splL 10 t).length - 1 := by rw [hw]; omega
  obtain ⟨la, hla⟩ := get_some (l := splL 10 t) (i := (splL 10 t).length - 1) (by omega)
  have hgl : (splL 10 t).getLast? = some la := by rw [List.getLast?_eq_getElem?]; exact hla
  by_cases he : la = []
  rotate_left 1
  · have k1 : decide (la ≠ []) = true := decide_eq_true he
    refine funW tabOk (E := [(168, s_splA), (171, s_numS), (170, s_rdFS), (169, s_rdSS), (172, s_l05Ok), (173, s_l05Text)]) ⟨ok_splA, ok_l01Number, ok_l01Read, ok_l01ReadSpan, ok_l05Ok, ok_l05Text, trivial⟩ [] (k := 0) (fn := Tryz.f68) rfl rfl rfl rfl rfl rfl ?_
    (repeat' ((try (conv => whnf)); first | (with_reducible first | refine And.intro ?_ ?_ | refine WX.of ?_) | exact zc | ((with_reducible refine VC.mk ?_); exact zw) | with_reducible refine atL_e hix hla ?_ | ((with_reducible refine VC.mk ?_); exact ⟨h1, rfl⟩) | ((with_reducible refine splitT_of ?_ ?_); (focus (simp only [k1, Bool.not_true, Bool.not_false, decide_true, decide_false]; done))) | ((with_reducible refine splitF_of ?_ ?_); (focus (simp only [k1, Bool.not_true, Bool.not_false, decide_true, decide_false]; done))) | (with_reducible first | refine splitT ?_ | refine splitF ?_) | ((with_reducible refine splitM.mk (fun hsm => ?_) (fun hsm => ?_)) <;> (try exact zx)) | ((with_reducible refine splitB.mk (fun h => ?_) (fun h => ?_)) <;> (try simp only [zs, ne_eq] at h) <;> (try simp (disch := omega) only [w64] at h) <;> (try exact zx)) | (with_reducible intro hz; (try exact absurd hz (Nat.succ_ne_zero _)))))
  subst he
  rw [if_pos hgl] at hR
  cases hO : foL chFS [] (splL 10 t).dropLast with
  | none =>
    obtain ⟨kk, x, pre, hx, hO, hf0⟩ := foL_none hO
    have hkk : kk < (splL 10 t).length - 1 := by
      have := (List.getElem?_eq_some_iff.1 hx).1
      rwa [List.length_dropLast] at this
    have hm := (foL_len hO).1
    rw [List.length_take, List.length_dropLast, List.length_nil, Nat.zero_add] at hm
    have hxl : (splL 10 t)[kk]? = some x := by rw [List.getElem?_dropLast, if_pos hkk] at hx; exact hx
    refine funW tabOk (E := [(168, s_splA), (171, s_numS), (170, s_rdFS), (169, s_rdSS), (172, s_l05Ok), (173, s_l05Text)]) ⟨ok_splA, ok_l01Number, ok_l01Read, ok_l01ReadSpan, ok_l05Ok, ok_l05Text, trivial⟩ [] (k := 0) (fn := Tryz.f68) rfl rfl rfl rfl rfl rfl ?_
    (repeat' ((try (conv => whnf)); first | (with_reducible first | refine And.intro ?_ ?_ | refine WX.of ?_) | exact zc | ((with_reducible refine VC.mk ?_); exact zw) | with_reducible refine atL_e hix hla ?_ | ((with_reducible refine VC.mk ?_); exact ⟨h1, rfl⟩) | (with_reducible first | refine splitT ?_ | refine splitF ?_) | ((with_reducible refine splitM.mk (fun hsm => ?_) (fun hsm => ?_)) <;> (try exact zx)) | ((with_reducible refine splitB.mk (fun h => ?_) (fun h => ?_)) <;> (try simp only [zs, ne_eq] at h) <;> (try simp (disch := omega) only [w64] at h) <;> (try exact zx)) | (with_reducible intro hz; (try exact absurd hz (Nat.succ_ne_zero _)))))
    refine loopW tabOk (E := [(168, s_splA), (171, s_numS), (170, s_rdFS), (169, s_rdSS), (172, s_l05Ok), (173, s_l05Text)]) ⟨ok_splA, ok_l01Number, ok_l01Read, ok_l01ReadSpan, ok_l05Ok, ok_l05Text, trivial⟩ [] (σ := Nat) (fun i => [(0, .str t), (4, .sl 0 0 (splL 10 t).length 0), (5, .sl 1 0 i 0), (6, .int .i64 i)]) (fun i => [.arr .str (splL 10 t) 1 true, .arr (.prod .str (.prod (.int .i64) (.prod (.prod (.prod (.int .i64) (.int .i64)) (.prod (.int .i64) (.int .i64))) (.prod (.prod (.int .i64) (.int .i64)) (.prod (.int .i64) (.int .i64)))))) (pre.take i) 10 true]) (fun i => (splL 10 t).length - 1 - i) (fun i => i ≤ kk) 0 (Nat.zero_le _) ?_ ?_
    · (repeat' ((try (conv => whnf)); first | (with_reducible first | refine And.intro ?_ ?_ | refine WX.of ?_) | exact zc | ((with_reducible refine VC.mk ?_); exact zw) | (with_reducible first | refine splitT ?_ | refine splitF ?_) | ((with_reducible refine splitM.mk (fun hsm => ?_) (fun hsm => ?_)) <;> (try exact zx)) | ((with_reducible refine splitB.mk (fun h => ?_) (fun h => ?_)) <;> (try simp only [zs, ne_eq] at h) <;> (try simp (disch := omega) only [w64] at h) <;> (try exact zx)) | (with_reducible intro hz; (try exact absurd hz (Nat.succ_ne_zero _)))))
    · intro i hi
      have hlen : (pre.take i).length = i := by rw [List.length_take]; omega
      by_cases hlt : i < kk
      · obtain ⟨ln, hln⟩ := get_some (l := splL 10 t) (i := i) (by omega)
        have hld : ((splL 10 t).dropLast.take kk)[i]? = some ln := by rw [List.getElem?_take, if_pos hlt, List.getElem?_dropLast, if_pos (by omega)]; exact hln
        obtain ⟨a, ha, hf⟩ := foL_at hO hld
        obtain ⟨⟨hWn, hG, hF⟩, rfl⟩ := chFS_inv hf
        obtain ⟨q1, q2, q3, q4⟩ := chG_at hG
        have hl1 := splL_sub 10 t ln (List.mem_of_getElem? hln)
        have hat : ∀ i, i < 6 → (splL 32 ln)[i]? = some (wR (splL 32 ln) i) := fun i hi => wR_at (by omega)
        have hsz : ∀ i, i < 6 → (wR (splL 32 ln) i).length ≤ 1048576 := fun i hi => Nat.le_trans (wR_len (by omega)) (by omega)
        have a0 := hat 0 (by decide)
        have a1 := hat 1 (by decide)
        have a2 := hat 2 (by decide)
        have a3 := hat 3 (by decide)
        have a4 := hat 4 (by decide)
        have a5 := hat 5 (by decide)
        have z2 := hsz 2 (by decide)
        have z3 := hsz 3 (by decide)
        have z4 := hsz 4 (by decide)
        have z5 := hsz 5 (by decide)
        have hlnl : ln.length ≤ 1048576 := by omega
        have hWl : decide (((splL 32 ln).length : Int) ≠ 6) = false := by rw [hWn]; rfl
        have hFr : frmR (pre.take i) (wR (splL 32 ln) 1) = frmS (pre.take i) (wR (splL 32 ln) 1) i := by unfold frmR; rw [hlen]
        (repeat' ((try (conv => whnf)); first | (with_reducible first | refine And.intro ?_ ?_ | refine WX.of ?_) | exact zc | ((with_reducible refine VC.mk ?_); exact zw) | with_reducible refine atL_0 hln ?_ | refine atL_w a0 (by decide) ?_ | ((with_reducible refine splitT_of ?_ ?_); (focus (simp only [hWl, Bool.not_true, Bool.not_false, decide_true, decide_false]; done))) | ((with_reducible refine splitF_of ?_ ?_); (focus (simp only [hWl, Bool.not_true, Bool.not_false, decide_true, decide_false]; done))) | ((with_reducible refine VC.mk ?_); exact ⟨hlnl, rfl⟩) | (with_reducible first | refine splitT ?_ | refine splitF ?_) | ((with_reducible refine splitM.mk (fun hsm => ?_) (fun hsm => ?_)) <;> (try exact zx)) | ((with_reducible refine splitB.mk (fun h => ?_) (fun h => ?_)) <;> (try simp only [zs, ne_eq] at h) <;> (try simp (disch := omega) only [w64] at h) <;> (try exact zx)) | (with_reducible intro hz; (try exact absurd hz (Nat.succ_ne_zero _)))))
        refine loopW tabOk (E := [(168, s_splA), (171, s_numS), (170, s_rdFS), (169, s_rdSS), (172, s_l05Ok), (173, s_l05Text)]) ⟨ok_splA, ok_l01Number, ok_l01Read, ok_l01ReadSpan, ok_l05Ok, ok_l05Text, trivial⟩ [] (σ := Nat) (fun k => [(0, .str t), (4, .sl 0 0 (splL 10 t).length 0), (5, .sl 1 0 i 0), (6, .int .i64 i), (7, .sl 2 0 (splL 32 ln).length 0), (8, .ptr 3 0 0), (9, .int .i64 k)]) (fun k => [.arr .str (splL 10 t) 1 true, .arr (.prod .str (.prod (.int .i64) (.prod (.prod (.prod (.int .i64) (.int .i64)) (.prod (.int .i64) (.int .i64))) (.prod (.prod (.int .i64) (.int .i64)) (.prod (.int .i64) (.int .i64)))))) (pre.take i) 10 true, .arr .str (splL 32 ln) 1 true, .arr (.prod .str (.prod (.int .i64) (.prod (.prod (.prod (.int .i64) (.int .i64)) (.prod (.int .i64) (.int .i64))) (.prod (.prod (.int .i64) (.int .i64)) (.prod (.int .i64) (.int .i64)))))) [(wR (splL 32 ln) 0, frmS (pre.take i) (wR (splL 32 ln) 1) k, ((0, 0), 0, 0), (0, 0), 0, 0)] 0 true]) (fun k => i - k) (fun k => k ≤ i) 0 (Nat.zero_le _) ?_ ?_
        · (repeat' ((try (conv => whnf)); first | (with_reducible first | refine And.intro ?_ ?_ | refine WX.of ?_) | exact zc | ((with_reducible refine VC.mk ?_); exact zw) | (with_reducible first | refine splitT ?_ | refine splitF ?_) | ((with_reducible refine splitM.mk (fun hsm => ?_) (fun hsm => ?_)) <;> (try exact zx)) | ((with_reducible refine splitB.mk (fun h => ?_) (fun h => ?_)) <;> (try simp only [zs, ne_eq] at h) <;> (try simp (disch := omega) only [w64] at h) <;> (try exact zx)) | (with_reducible intro hz; (try exact absurd hz (Nat.succ_ne_zero _)))))
        · intro k hk
          by_cases hki : k < i
          · obtain ⟨⟨nm0, fr0, ⟨⟨p0, q0⟩, p0', q0'⟩, ⟨dp0, dq0⟩, md0, gd0⟩, hb⟩ := get_some (l := pre.take i) (i := k) (by omega)
            have hs : frmS (pre.take i) (wR (splL 32 ln) 1) (k + 1) = if nm0 = wR (splL 32 ln) 1 then (k : Int) else frmS (pre.take i) (wR (splL 32 ln) 1) k := by
              simp only [frmS]
              rw [stAt_e hb]
            (repeat' ((try (conv => whnf)); first | (with_reducible first | refine And.intro ?_ ?_ | refine WX.of ?_) | exact zc | ((with_reducible refine VC.mk ?_); exact zw) | with_reducible refine atL_0 hb ?_ | refine atL_w a1 (by decide) ?_ | (with_reducible first | refine splitT ?_ | refine splitF ?_) | ((with_reducible refine splitM.mk (fun hsm => ?_) (fun hsm => ?_)) <;> (try exact zx)) | ((with_reducible refine splitB.mk (fun h => ?_) (fun h => ?_)) <;> (try simp only [zs, ne_eq] at h) <;> (try simp (disch := omega) only [w64] at h) <;> (try exact zx)) | (with_reducible intro hz; (try exact absurd hz (Nat.succ_ne_zero _)))))
            all_goals
              refine ⟨k + 1, by omega, by omega, ?_⟩
              (repeat' ((try (conv => whnf)); first | (with_reducible first | refine And.intro ?_ ?_ | refine WX.of ?_) | exact zc | ((with_reducible refine VC.mk ?_); exact zw) | (with_reducible first | refine splitT ?_ | refine splitF ?_) | ((with_reducible refine splitM.mk (fun hsm => ?_) (fun hsm => ?_)) <;> (try exact zx)) | ((with_reducible refine splitB.mk (fun h => ?_) (fun h => ?_)) <;> (try simp only [zs, ne_eq] at h) <;> (try simp (disch := omega) only [w64] at h) <;> (try exact zx)) | (with_reducible intro hz; (try exact absurd hz (Nat.succ_ne_zero _)))))
            · exact ⟨by rw [hs, if_pos (by assumption)]; rfl⟩
            · exact ⟨by rw [hs, if_neg (by assumption)]⟩
          · obtain rfl : k = i := by omega
            have ha2 : pre[k]? = some (wR (splL 32 ln) 0, frmS (pre.take k) (wR (splL 32 ln) 1) k, spnJ (wR (splL 32 ln) 2), frJ (wR (splL 32 ln) 3), (numR (wR (splL 32 ln) 4)).getD 0, (numR (wR (splL 32 ln) 5)).getD 0) := by rw [← hFr]; exact ha
            rcases frm_em (pre.take k) (wR (splL 32 ln) 1) k with hneg | hneg
            · have k45 : decide (wR (splL 32 ln) 1 ≠ [45]) = false := decide_eq_false fun h => h (by rcases hF with hF | hF; rw [hFr] at hF; omega; exact hF)
              have kF : decide (frmS (pre.take k) (wR (splL 32 ln) 1) k < 0) = true := decide_eq_true hneg
              (repeat' ((try (conv => whnf)); first | (with_reducible first | refine And.intro ?_ ?_ | refine WX.of ?_) | exact zc | ((with_reducible refine VC.mk ?_); exact zw) | refine atL_w a1 (by decide) ?_ | refine atL_w a2 (by decide) ?_ | refine atL_w a3 (by decide) ?_ | refine atL_w a4 (by decide) ?_ | refine atL_w a5 (by decide) ?_ | ((with_reducible refine VC.mk ?_); exact z2) | ((with_reducible refine VC.mk ?_); exact z3) | ((with_reducible refine VC.mk ?_); exact z4) | ((with_reducible refine VC.mk ?_); exact z5) | ((with_reducible refine splitT_of ?_ ?_); (focus (simp only [q1, q2, q3, q4, Bool.not_true, k45, kF, Bool.not_true, Bool.not_false, decide_true, decide_false]; done))) | ((with_reducible refine splitF_of ?_ ?_); (focus (simp only [q1, q2, q3, q4, Bool.not_true, k45, kF, Bool.not_true, Bool.not_false, decide_true, decide_false]; done))) | (with_reducible first | refine splitT ?_ | refine splitF ?_) | ((with_reducible refine splitM.mk (fun hsm => ?_) (fun hsm => ?_)) <;> (try exact zx)) | ((with_reducible refine splitB.mk (fun h => ?_) (fun h => ?_)) <;> (try simp only [zs, ne_eq] at h) <;> (try simp (disch := omega) only [w64] at h) <;> (try exact zx)) | (with_reducible intro hz; (try exact absurd hz (Nat.succ_ne_zero _)))))
              refine ⟨k + 1, by omega, by omega, ?_⟩
              (repeat' ((try (conv => whnf)); first | (with_reducible first | refine And.intro ?_ ?_ | refine WX.of ?_) | exact zc | ((with_reducible refine VC.mk ?_); exact zw) | (with_reducible first | refine splitT ?_ | refine splitF ?_) | ((with_reducible refine splitM.mk (fun hsm => ?_) (fun hsm => ?_)) <;> (try exact zx)) | ((with_reducible refine splitB.mk (fun h => ?_) (fun h => ?_)) <;> (try simp only [zs, ne_eq] at h) <;> (try simp (disch := omega) only [w64] at h) <;> (try exact zx)) | (with_reducible intro hz; (try exact absurd hz (Nat.succ_ne_zero _)))))
              all_goals exact ⟨app_take ha2⟩
            · have kF : decide (frmS (pre.take k) (wR (splL 32 ln) 1) k < 0) = false := decide_eq_false hneg
              (repeat' ((try (conv => whnf)); first | (with_reducible first | refine And.intro ?_ ?_ | refine WX.of ?_) | exact zc | ((with_reducible refine VC.mk ?_); exact zw) | refine atL_w a1 (by decide) ?_ | refine atL_w a2 (by decide) ?_ | refine atL_w a3 (by decide) ?_ | refine atL_w a4 (by decide) ?_ | refine atL_w a5 (by decide) ?_ | ((with_reducible refine VC.mk ?_); exact z2) | ((with_reducible refine VC.mk ?_); exact z3) | ((with_reducible refine VC.mk ?_); exact z4) | ((with_reducible refine VC.mk ?_); exact z5) | ((with_reducible refine splitT_of ?_ ?_); (focus (simp only [q1, q2, q3, q4, Bool.not_true, kF, Bool.not_true, Bool.not_false, decide_true, decide_false]; done))) | ((with_reducible refine splitF_of ?_ ?_); (focus (simp only [q1, q2, q3, q4, Bool.not_true, kF, Bool.not_true, Bool.not_false, decide_true, decide_false]; done))) | (with_reducible first | refine splitT ?_ | refine splitF ?_) | ((with_reducible refine splitM.mk (fun hsm => ?_) (fun hsm => ?_)) <;> (try exact zx)) | ((with_reducible refine splitB.mk (fun h => ?_) (fun h => ?_)) <;> (try simp only [zs, ne_eq] at h) <;> (try simp (disch := omega) only [w64] at h) <;> (try exact zx)) | (with_reducible intro hz; (try exact absurd hz (Nat.succ_ne_zero _)))))
              refine ⟨k + 1, by omega, by omega, ?_⟩
              (repeat' ((try (conv => whnf)); first | (with_reducible first | refine And.intro ?_ ?_ | refine WX.of ?_) | exact zc | ((with_reducible refine VC.mk ?_); exact zw) | (with_reducible first | refine splitT ?_ | refine splitF ?_) | ((with_reducible refine splitM.mk (fun hsm => ?_) (fun hsm => ?_)) <;> (try exact zx)) | ((with_reducible refine splitB.mk (fun h => ?_) (fun h => ?_)) <;> (try simp only [zs, ne_eq] at h) <;> (try simp (disch := omega) only [w64] at h) <;> (try exact zx)) | (with_reducible intro hz; (try exact absurd hz (Nat.succ_ne_zero _)))))
              all_goals exact ⟨app_take ha2⟩
      · obtain rfl : i = kk := by omega
        have hl1 := splL_sub 10 t x (List.mem_of_getElem? hxl)
        have hlnl : x.length ≤ 1048576 := by omega
        have htk : pre.take i = pre := List.take_of_length_le (by omega)
        rw [← htk] at hf0
        by_cases hWn : (splL 32 x).length = 6
        · have hln := hxl
          generalize x = ln at *
          have hat : ∀ i, i < 6 → (splL 32 ln)[i]? = some (wR (splL 32 ln) i) := fun i hi => wR_at (by omega)
          have hsz : ∀ i, i < 6 → (wR (splL 32 ln) i).length ≤ 1048576 := fun i hi => Nat.le_trans (wR_len (by omega)) (by omega)
          have a0 := hat 0 (by decide)
          have a1 := hat 1 (by decide)
          have a2 := hat 2 (by decide)
          have a3 := hat 3 (by decide)
          have a4 := hat 4 (by decide)
          have a5 := hat 5 (by decide)
          have z2 := hsz 2 (by decide)
          have z3 := hsz 3 (by decide)
          have z4 := hsz 4 (by decide)
          have z5 := hsz 5 (by decide)
          have hWl : decide (((splL 32 ln).length : Int) ≠ 6) = false := by rw [hWn]; rfl
          have hFr : frmR (pre.take i) (wR (splL 32 ln) 1) = frmS (pre.take i) (wR (splL 32 ln) 1) i := by unfold frmR; rw [hlen]
          (repeat' ((try (conv => whnf)); first | (with_reducible first | refine And.intro ?_ ?_ | refine WX.of ?_) | exact zc | ((with_reducible refine VC.mk ?_); exact zw) | with_reducible refine atL_0 hln ?_ | refine atL_w a0 (by decide) ?_ | ((with_reducible refine splitT_of ?_ ?_); (focus (simp only [hWl, Bool.not_true, Bool.not_false, decide_true, decide_false]; done))) | ((with_reducible refine splitF_of ?_ ?_); (focus (simp only [hWl, Bool.not_true, Bool.not_false, decide_true, decide_false]; done))) | ((with_reducible refine VC.mk ?_); exact ⟨hlnl, rfl⟩) | (with_reducible first | refine splitT ?_ | refine splitF ?_) | ((with_reducible refine splitM.mk (fun hsm => ?_) (fun hsm => ?_)) <;> (try exact zx)) | ((with_reducible refine splitB.mk (fun h => ?_) (fun h => ?_)) <;> (try simp only [zs, ne_eq] at h) <;> (try simp (disch := omega) only [w64] at h) <;> (try exact zx)) | (with_reducible intro hz; (try exact absurd hz (Nat.succ_ne_zero _)))))
          refine loopW tabOk (E := [(168, s_splA), (171, s_numS), (170, s_rdFS), (169, s_rdSS), (172, s_l05Ok), (173, s_l05Text)]) ⟨ok_splA, ok_l01Number, ok_l01Read, ok_l01ReadSpan, ok_l05Ok, ok_l05Text, trivial⟩ [] (σ := Nat) (fun k => [(0, .str t), (4, .sl 0 0 (splL 10 t).length 0), (5, .sl 1 0 i 0), (6, .int .i64 i), (7, .sl 2 0 (splL 32 ln).length 0), (8, .ptr 3 0 0), (9, .int .i64 k)]) (fun k => [.arr .str (splL 10 t) 1 true, .arr (.prod .str (.prod (.int .i64) (.prod (.prod (.prod (.int .i64) (.int .i64)) (.prod (.int .i64) (.int .i64))) (.prod (.prod (.int .i64) (.int .i64)) (.prod (.int .i64) (.int .i64)))))) (pre.take i) 10 true, .arr .str (splL 32 ln) 1 true, .arr (.prod .str (.prod (.int .i64) (.prod (.prod (.prod (.int .i64) (.int .i64)) (.prod (.int .i64) (.int .i64))) (.prod (.prod (.int .i64) (.int .i64)) (.prod (.int .i64) (.int .i64)))))) [(wR (splL 32 ln) 0, frmS (pre.take i) (wR (splL 32 ln) 1) k, ((0, 0), 0, 0), (0, 0), 0, 0)] 0 true]) (fun k => i - k) (fun k => k ≤ i) 0 (Nat.zero_le _) ?_ ?_
          · (repeat' ((try (conv => whnf)); first | (with_reducible first | refine And.intro ?_ ?_ | refine WX.of ?_) | exact zc | ((with_reducible refine VC.mk ?_); exact zw) | (with_reducible first | refine splitT ?_ | refine splitF ?_) | ((with_reducible refine splitM.mk (fun hsm => ?_) (fun hsm => ?_)) <;> (try exact zx)) | ((with_reducible refine splitB.mk (fun h => ?_) (fun h => ?_)) <;> (try simp only [zs, ne_eq] at h) <;> (try simp (disch := omega) only [w64] at h) <;> (try exact zx)) | (with_reducible intro hz; (try exact absurd hz (Nat.succ_ne_zero _)))))
          · intro k hk
            by_cases hki : k < i
            · obtain ⟨⟨nm0, fr0, ⟨⟨p0, q0⟩, p0', q0'⟩, ⟨dp0, dq0⟩, md0, gd0⟩, hb⟩ := get_some (l := pre.take i) (i := k) (by omega)
              have hs : frmS (pre.take i) (wR (splL 32 ln) 1) (k + 1) = if nm0 = wR (splL 32 ln) 1 then (k : Int) else frmS (pre.take i) (wR (splL 32 ln) 1) k := by
                simp only [frmS]
                rw [stAt_e hb]
              (repeat' ((try (conv => whnf)); first | (with_reducible first | refine And.intro ?_ ?_ | refine WX.of ?_) | exact zc | ((with_reducible refine VC.mk ?_); exact zw) | with_reducible refine atL_0 hb ?_ | refine atL_w a1 (by decide) ?_ | (with_reducible first | refine splitT ?_ | refine splitF ?_) | ((with_reducible refine splitM.mk (fun hsm => ?_) (fun hsm => ?_)) <;> (try exact zx)) | ((with_reducible refine splitB.mk (fun h => ?_) (fun h => ?_)) <;> (try simp only [zs, ne_eq] at h) <;> (try simp (disch := omega) only [w64] at h) <;> (try exact zx)) | (with_reducible intro hz; (try exact absurd hz (Nat.succ_ne_zero _)))))
              all_goals
                refine ⟨k + 1, by omega, by omega, ?_⟩
                (repeat' ((try (conv => whnf)); first | (with_reducible first | refine And.intro ?_ ?_ | refine WX.of ?_) | exact zc | ((with_reducible refine VC.mk ?_); exact zw) | (with_reducible first | refine splitT ?_ | refine splitF ?_) | ((with_reducible refine splitM.mk (fun hsm => ?_) (fun hsm => ?_)) <;> (try exact zx)) | ((with_reducible refine splitB.mk (fun h => ?_) (fun h => ?_)) <;> (try simp only [zs, ne_eq] at h) <;> (try simp (disch := omega) only [w64] at h) <;> (try exact zx)) | (with_reducible intro hz; (try exact absurd hz (Nat.succ_ne_zero _)))))
              · exact ⟨by rw [hs, if_pos (by assumption)]; rfl⟩
              · exact ⟨by rw [hs, if_neg (by assumption)]⟩
            · obtain rfl : k = i := by omega
              have hbad : chG (splL 32 ln) = true → (0 ≤ frmR (pre.take k) (wR (splL 32 ln) 1) ∨ wR (splL 32 ln) 1 = [45]) → False := fun hg hf => by unfold chFS at hf0; rw [if_pos ⟨hWn, hg, hf⟩] at hf0; cases hf0
              have hb4 : (spnR (wR (splL 32 ln) 2)).isSome = true → (frR (wR (splL 32 ln) 3)).isSome = true → (numR (wR (splL 32 ln) 4)).isSome = true → (numR (wR (splL 32 ln) 5)).isSome = true → frmS (pre.take k) (wR (splL 32 ln) 1) k < 0 ∧ wR (splL 32 ln) 1 ≠ [45] := fun g1 g2 g3 g4 => by
                have hg : chG (splL 32 ln) = true := by unfold chG; rw [g1, g2, g3, g4]; rfl
                refine ⟨Classical.byContradiction fun h => hbad hg (.inl ?_), fun h => hbad hg (.inr h)⟩
                rw [hFr]; omega
              (repeat' ((try (conv => whnf)); first | (with_reducible first | refine And.intro ?_ ?_ | refine WX.of ?_) | exact zc | ((with_reducible refine VC.mk ?_); exact zw) | refine atL_w a1 (by decide) ?_ | refine atL_w a2 (by decide) ?_ | refine atL_w a3 (by decide) ?_ | refine atL_w a4 (by decide) ?_ | refine atL_w a5 (by decide) ?_ | ((with_reducible refine VC.mk ?_); exact z2) | ((with_reducible refine VC.mk ?_); exact z3) | ((with_reducible refine VC.mk ?_); exact z4) | ((with_reducible refine VC.mk ?_); exact z5) | (with_reducible first | refine splitT ?_ | refine splitF ?_) | ((with_reducible refine splitM.mk (fun hsm => ?_) (fun hsm => ?_)) <;> (try exact zx)) | ((with_reducible refine splitB.mk (fun h => ?_) (fun h => ?_)) <;> (try simp only [zs, ne_eq] at h) <;> (try simp (disch := omega) only [w64] at h) <;> (try exact zx)) | (with_reducible intro hz; (try exact absurd hz (Nat.succ_ne_zero _)))))
              all_goals first
                | (exfalso; exact absurd (hb4 (by assumption) (by assumption) (by assumption) (by assumption)).1 (by omega))
                | (exfalso; exact absurd (by assumption) (hb4 (by assumption) (by assumption) (by assumption) (by assumption)).2)
        · have hWl : decide (((splL 32 x).length : Int) ≠ 6) = true := decide_eq_true (by omega)
          (repeat' ((try (conv => whnf)); first | (with_reducible first | refine And.intro ?_ ?_ | refine WX.of ?_) | exact zc | ((with_reducible refine VC.mk ?_); exact zw) | with_reducible refine atL_0 hxl ?_ | ((with_reducible refine splitT_of ?_ ?_); (focus (simp only [hWl, Bool.not_true, Bool.not_false, decide_true, decide_false]; done))) | ((with_reducible refine splitF_of ?_ ?_); (focus (simp only [hWl, Bool.not_true, Bool.not_false, decide_true, decide_false]; done))) | ((with_reducible refine VC.mk ?_); exact ⟨hlnl, rfl⟩) | (with_reducible first | refine splitT ?_ | refine splitF ?_) | ((with_reducible refine splitM.mk (fun hsm => ?_) (fun hsm => ?_)) <;> (try exact zx)) | ((with_reducible refine splitB.mk (fun h => ?_) (fun h => ?_)) <;> (try simp only [zs, ne_eq] at h) <;> (try simp (disch := omega) only [w64] at h) <;> (try exact zx)) | (with_reducible intro hz; (try exact absurd hz (Nat.succ_ne_zero _)))))
  | some R =>
    rw [hO] at hR
    simp only at hR
    have hbad : ¬ (chB R = true ∧ chT R R = t) := fun h9 => by rw [if_pos h9] at hR; cases hR
    have hm := (foL_len hO).1
    rw [List.length_dropLast, List.length_nil, Nat.zero_add] at hm
    have hnm : ∀ (j : Nat) (a : StT), R[j]? = some a → a.1.length < 9223372036854775808 := fun j a ha => by
      have hj := (List.getElem?_eq_some_iff.1 ha).1
      obtain ⟨ln, hln⟩ := get_some (l := splL 10 t) (i := j) (by omega)
      have hld : (splL 10 t).dropLast[j]? = some ln := by rw [List.getElem?_dropLast, if_pos (by omega)]; exact hln
      obtain ⟨y, hy, hf⟩ := foL_at hO hld
      rw [ha] at hy
      injection hy with hy
      obtain ⟨⟨h6, _⟩, e⟩ := chFS_inv hf
      have hl1 := splL_sub 10 t ln (List.mem_of_getElem? hln)
      have hs0 := wR_len (c := 32) (t := ln) (i := 0) (by omega)
      rw [hy, e]
      show (wR (splL 32 ln) 0).length < _
      omega
    refine funW tabOk (E := [(168, s_splA), (171, s_numS), (170, s_rdFS), (169, s_rdSS), (172, s_l05Ok), (173, s_l05Text)]) ⟨ok_splA, ok_l01Number, ok_l01Read, ok_l01ReadSpan, ok_l05Ok, ok_l05Text, trivial⟩ [] (k := 0) (fn := Tryz.f68) rfl rfl rfl rfl rfl rfl ?_
    (repeat' ((try (conv => whnf)); first | (with_reducible first | refine And.intro ?_ ?_ | refine WX.of ?_) | exact zc | ((with_reducible refine VC.mk ?_); exact zw) | with_reducible refine atL_e hix hla ?_ | ((with_reducible refine VC.mk ?_); exact ⟨h1, rfl⟩) | (with_reducible first | refine splitT ?_ | refine splitF ?_) | ((with_reducible refine splitM.mk (fun hsm => ?_) (fun hsm => ?_)) <;> (try exact zx)) | ((with_reducible refine splitB.mk (fun h => ?_) (fun h => ?_)) <;> (try simp only [zs, ne_eq] at h) <;> (try simp (disch := omega) only [w64] at h) <;> (try exact zx)) | (with_reducible intro hz; (try exact absurd hz (Nat.succ_ne_zero _)))))
    refine loopW tabOk (E := [(168, s_splA), (171, s_numS), (170, s_rdFS), (169, s_rdSS), (172, s_l05Ok), (173, s_l05Text)]) ⟨ok_splA, ok_l01Number, ok_l01Read, ok_l01ReadSpan, ok_l05Ok, ok_l05Text, trivial⟩ [] (σ := Nat) (fun i => [(0, .str t), (4, .sl 0 0 (splL 10 t).length 0), (5, .sl 1 0 i 0), (6, .int .i64 i)]) (fun i => [.arr .str (splL 10 t) 1 true, .arr (.prod .str (.prod (.int .i64) (.prod (.prod (.prod (.int .i64) (.int .i64)) (.prod (.int .i64) (.int .i64))) (.prod (.prod (.int .i64) (.int .i64)) (.prod (.int .i64) (.int .i64)))))) (R.take i) 10 true]) (fun i => (splL 10 t).length - 1 - i) (fun i => i ≤ (splL 10 t).length - 1) 0 (Nat.zero_le _) ?_ ?_
    · (repeat' ((try (conv => whnf)); first | (with_reducible first | refine And.intro ?_ ?_ | refine WX.of ?_) | exact zc | ((with_reducible refine VC.mk ?_); exact zw) | (with_reducible first | refine splitT ?_ | refine splitF ?_) | ((with_reducible refine splitM.mk (fun hsm => ?_) (fun hsm => ?_)) <;> (try exact zx)) | ((with_reducible refine splitB.mk (fun h => ?_) (fun h => ?_)) <;> (try simp only [zs, ne_eq] at h) <;> (try simp (disch := omega) only [w64] at h) <;> (try exact zx)) | (with_reducible intro hz; (try exact absurd hz (Nat.succ_ne_zero _)))))
    · intro i hi
      have hlen : (R.take i).length = i := by rw [List.length_take]; omega
      by_cases hlt : i < (splL 10 t).length - 1
      · obtain ⟨ln, hln⟩ := get_some (l := splL 10 t) (i := i) (by omega)
        have hld : (splL 10 t).dropLast[i]? = some ln := by rw [List.getElem?_dropLast, if_pos hlt]; exact hln
        obtain ⟨a, ha, hf⟩ := foL_at hO hld
        obtain ⟨⟨hWn, hG, hF⟩, rfl⟩ := chFS_inv hf
        obtain ⟨q1, q2, q3, q4⟩ := chG_at hG
        have hl1 := splL_sub 10 t ln (List.mem_of_getElem? hln)
        have hat : ∀ i, i < 6 → (splL 32 ln)[i]? = some (wR (splL 32 ln) i) := fun i hi => wR_at (by omega)
        have hsz : ∀ i, i < 6 → (wR (splL 32 ln) i).length ≤ 1048576 := fun i hi => Nat.le_trans (wR_len (by omega)) (by omega)
        have a0 := hat 0 (by decide)
        have a1 := hat 1 (by decide)
        have a2 := hat 2 (by decide)
        have a3 := hat 3 (by decide)
        have a4 := hat 4 (by decide)
        have a5 := hat 5 (by decide)
        have z2 := hsz 2 (by decide)
        have z3 := hsz 3 (by decide)
        have z4 := hsz 4 (by decide)
        have z5 := hsz 5 (by decide)
        have hlnl : ln.length ≤ 1048576 := by omega
        have hWl : decide (((splL 32 ln).length : Int) ≠ 6) = false := by rw [hWn]; rfl
        have hFr : frmR (R.take i) (wR (splL 32 ln) 1) = frmS (R.take i) (wR (splL 32 ln) 1) i := by unfold frmR; rw [hlen]
        (repeat' ((try (conv => whnf)); first | (with_reducible first | refine And.intro ?_ ?_ | refine WX.of ?_) | exact zc | ((with_reducible refine VC.mk ?_); exact zw) | with_reducible refine atL_0 hln ?_ | refine atL_w a0 (by decide) ?_ | ((with_reducible refine splitT_of ?_ ?_); (focus (simp only [hWl, Bool.not_true, Bool.not_false, decide_true, decide_false]; done))) | ((with_reducible refine splitF_of ?_ ?_); (focus (simp only [hWl, Bool.not_true, Bool.not_false, decide_true, decide_false]; done))) | ((with_reducible refine VC.mk ?_); exact ⟨hlnl, rfl⟩) | (with_reducible first | refine splitT ?_ | refine splitF ?_) | ((with_reducible refine splitM.mk (fun hsm => ?_) (fun hsm => ?_)) <;> (try exact zx)) | ((with_reducible refine splitB.mk (fun h => ?_) (fun h => ?_)) <;> (try simp only [zs, ne_eq] at h) <;> (try simp (disch := omega) only [w64] at h) <;> (try exact zx)) | (with_reducible intro hz; (try exact absurd hz (Nat.succ_ne_zero _)))))
        refine loopW tabOk (E := [(168, s_splA), (171, s_numS), (170, s_rdFS), (169, s_rdSS), (172, s_l05Ok), (173, s_l05Text)]) ⟨ok_splA, ok_l01Number, ok_l01Read, ok_l01ReadSpan, ok_l05Ok, ok_l05Text, trivial⟩ [] (σ := Nat) (fun k => [(0, .str t), (4, .sl 0 0 (splL 10 t).length 0), (5, .sl 1 0 i 0), (6, .int .i64 i), (7, .sl 2 0 (splL 32 ln).length 0), (8, .ptr 3 0 0), (9, .int .i64 k)]) (fun k => [.arr .str (splL 10 t) 1 true, .arr (.prod .str (.prod (.int .i64) (.prod (.prod (.prod (.int .i64) (.int .i64)) (.prod (.int .i64) (.int .i64))) (.prod (.prod (.int .i64) (.int .i64)) (.prod (.int .i64) (.int .i64)))))) (R.take i) 10 true, .arr .str (splL 32 ln) 1 true, .arr (.prod .str (.prod (.int .i64) (.prod (.prod (.prod (.int .i64) (.int .i64)) (.prod (.int .i64) (.int .i64))) (.prod (.prod (.int .i64) (.int .i64)) (.prod (.int .i64) (.int .i64)))))) [(wR (splL 32 ln) 0, frmS (R.take i) (wR (splL 32 ln) 1) k, ((0, 0), 0, 0), (0, 0), 0, 0)] 0 true]) (fun k => i - k) (fun k => k ≤ i) 0 (Nat.zero_le _) ?_ ?_
        · (repeat' ((try (conv => whnf)); first | (with_reducible first | refine And.intro ?_ ?_ | refine WX.of ?_) | exact zc | ((with_reducible refine VC.mk ?_); exact zw) | (with_reducible first | refine splitT ?_ | refine splitF ?_) | ((with_reducible refine splitM.mk (fun hsm => ?_) (fun hsm => ?_)) <;> (try exact zx)) | ((with_reducible refine splitB.mk (fun h => ?_) (fun h => ?_)) <;> (try simp only [zs, ne_eq] at h) <;> (try simp (disch := omega) only [w64] at h) <;> (try exact zx)) | (with_reducible intro hz; (try exact absurd hz (Nat.succ_ne_zero _)))))
        · intro k hk
          by_cases hki : k < i
          · obtain ⟨⟨nm0, fr0, ⟨⟨p0, q0⟩, p0', q0'⟩, ⟨dp0, dq0⟩, md0, gd0⟩, hb⟩ := get_some (l := R.take i) (i := k) (by omega)
            have hs : frmS (R.take i) (wR (splL 32 ln) 1) (k + 1) = if nm0 = wR (splL 32 ln) 1 then (k : Int) else frmS (R.take i) (wR (splL 32 ln) 1) k := by
              simp only [frmS]
              rw [stAt_e hb]
            (repeat' ((try (conv => whnf)); first | (with_reducible first | refine And.intro ?_ ?_ | refine WX.of ?_) | exact zc | ((with_reducible refine VC.mk ?_); exact zw) | with_reducible refine atL_0 hb ?_ | refine atL_w a1 (by decide) ?_ | (with_reducible first | refine splitT ?_ | refine splitF ?_) | ((with_reducible refine splitM.mk (fun hsm => ?_) (fun hsm => ?_)) <;> (try exact zx)) | ((with_reducible refine splitB.mk (fun h => ?_) (fun h => ?_)) <;> (try simp only [zs, ne_eq] at h) <;> (try simp (disch := omega) only [w64] at h) <;> (try exact zx)) | (with_reducible intro hz; (try exact absurd hz (Nat.succ_ne_zero _)))))
            all_goals
              refine ⟨k + 1, by omega, by omega, ?_⟩
              (repeat' ((try (conv => whnf)); first | (with_reducible first | refine And.intro ?_ ?_ | refine WX.of ?_) | exact zc | ((with_reducible refine VC.mk ?_); exact zw) | (with_reducible first | refine splitT ?_ | refine splitF ?_) | ((with_reducible refine splitM.mk (fun hsm => ?_) (fun hsm => ?_)) <;> (try exact zx)) | ((with_reducible refine splitB.mk (fun h => ?_) (fun h => ?_)) <;> (try simp only [zs, ne_eq] at h) <;> (try simp (disch := omega) only [w64] at h) <;> (try exact zx)) | (with_reducible intro hz; (try exact absurd hz (Nat.succ_ne_zero _)))))
            · exact ⟨by rw [hs, if_pos (by assumption)]; rfl⟩
            · exact ⟨by rw [hs, if_neg (by assumption)]⟩
          · obtain rfl : k = i := by omega
            have ha2 : R[k]? = some (wR (splL 32 ln) 0, frmS (R.take k) (wR (splL 32 ln) 1) k, spnJ (wR (splL 32 ln) 2), frJ (wR (splL 32 ln) 3), (numR (wR (splL 32 ln) 4)).getD 0, (numR (wR (splL 32 ln) 5)).getD 0) := by rw [← hFr]; exact ha
            rcases frm_em (R.take k) (wR (splL 32 ln) 1) k with hneg | hneg
            · have k45 : decide (wR (splL 32 ln) 1 ≠ [45]) = false := decide_eq_false fun h => h (by rcases hF with hF | hF; rw [hFr] at hF; omega; exact hF)
              have kF : decide (frmS (R.take k) (wR (splL 32 ln) 1) k < 0) = true := decide_eq_true hneg
              (repeat' ((try (conv => whnf)); first | (with_reducible first | refine And.intro ?_ ?_ | refine WX.of ?_) | exact zc | ((with_reducible refine VC.mk ?_); exact zw) | refine atL_w a1 (by decide) ?_ | refine atL_w a2 (by decide) ?_ | refine atL_w a3 (by decide) ?_ | refine atL_w a4 (by decide) ?_ | refine atL_w a5 (by decide) ?_ | ((with_reducible refine VC.mk ?_); exact z2) | ((with_reducible refine VC.mk ?_); exact z3) | ((with_reducible refine VC.mk ?_); exact z4) | ((with_reducible refine VC.mk ?_); exact z5) | ((with_reducible refine splitT_of ?_ ?_); (focus (simp only [q1, q2, q3, q4, Bool.not_true, k45, kF, Bool.not_true, Bool.not_false, decide_true, decide_false]; done))) | ((with_reducible refine splitF_of ?_ ?_); (focus (simp only [q1, q2, q3, q4, Bool.not_true, k45, kF, Bool.not_true, Bool.not_false, decide_true, decide_false]; done))) | (with_reducible first | refine splitT ?_ | refine splitF ?_) | ((with_reducible refine splitM.mk (fun hsm => ?_) (fun hsm => ?_)) <;> (try exact zx)) | ((with_reducible refine splitB.mk (fun h => ?_) (fun h => ?_)) <;> (try simp only [zs, ne_eq] at h) <;> (try simp (disch := omega) only [w64] at h) <;> (try exact zx)) | (with_reducible intro hz; (try exact absurd hz (Nat.succ_ne_zero _)))))
              refine ⟨k + 1, by omega, by omega, ?_⟩
              (repeat' ((try (conv => whnf)); first | (with_reducible first | refine And.intro ?_ ?_ | refine WX.of ?_) | exact zc | ((with_reducible refine VC.mk ?_); exact zw) | (with_reducible first | refine splitT ?_ | refine splitF ?_) | ((with_reducible refine splitM.mk (fun hsm => ?_) (fun hsm => ?_)) <;> (try exact zx)) | ((with_reducible refine splitB.mk (fun h => ?_) (fun h => ?_)) <;> (try simp only [zs, ne_eq] at h) <;> (try simp (disch := omega) only [w64] at h) <;> (try exact zx)) | (with_reducible intro hz; (try exact absurd hz (Nat.succ_ne_zero _)))))
              all_goals exact ⟨app_take ha2⟩
            · have kF : decide (frmS (R.take k) (wR (splL 32 ln) 1) k < 0) = false := decide_eq_false hneg
              (repeat' ((try (conv => whnf)); first | (with_reducible first | refine And.intro ?_ ?_ | refine WX.of ?_) | exact zc | ((with_reducible refine VC.mk ?_); exact zw) | refine atL_w a1 (by decide) ?_ | refine atL_w a2 (by decide) ?_ | refine atL_w a3 (by decide) ?_ | refine atL_w a4 (by decide) ?_ | refine atL_w a5 (by decide) ?_ | ((with_reducible refine VC.mk ?_); exact z2) | ((with_reducible refine VC.mk ?_); exact z3) | ((with_reducible refine VC.mk ?_); exact z4) | ((with_reducible refine VC.mk ?_); exact z5) | ((with_reducible refine splitT_of ?_ ?_); (focus (simp only [q1, q2, q3, q4, Bool.not_true, kF, Bool.not_true, Bool.not_false, decide_true, decide_false]; done))) | ((with_reducible refine splitF_of ?_ ?_); (focus (simp only [q1, q2, q3, q4, Bool.not_true, kF, Bool.not_true, Bool.not_false, decide_true, decide_false]; done))) | (with_reducible first | refine splitT ?_ | refine splitF ?_) | ((with_reducible refine splitM.mk (fun hsm => ?_) (fun hsm => ?_)) <;> (try exact zx)) | ((with_reducible refine splitB.mk (fun h => ?_) (fun h => ?_)) <;> (try simp only [zs, ne_eq] at h) <;> (try simp (disch := omega) only [w64] at h) <;> (try exact zx)) | (with_reducible intro hz; (try exact absurd hz (Nat.succ_ne_zero _)))))
              refine ⟨k + 1, by omega, by omega, ?_⟩
              (repeat' ((try (conv => whnf)); first | (with_reducible first | refine And.intro ?_ ?_ | refine WX.of ?_) | exact zc | ((with_reducible refine VC.mk ?_); exact zw) | (with_reducible first | refine splitT ?_ | refine splitF ?_) | ((with_reducible refine splitM.mk (fun hsm => ?_) (fun hsm => ?_)) <;> (try exact zx)) | ((with_reducible refine splitB.mk (fun h => ?_) (fun h => ?_)) <;> (try simp only [zs, ne_eq] at h) <;> (try simp (disch := omega) only [w64] at h) <;> (try exact zx)) | (with_reducible intro hz; (try exact absurd hz (Nat.succ_ne_zero _)))))
              all_goals exact ⟨app_take ha2⟩
      · obtain rfl : i = (splL 10 t).length - 1 := by omega
        have htk : R.take ((splL 10 t).length - 1) = R := List.take_of_length_le (by omega)
        have hsg : seg R 0 ((splL 10 t).length - 1) = R := seg_full hm
        rw [htk]
        by_cases hB : chB R = true
        · have hn30 := ch_len hB
          have hB2 : chB (seg R 0 ((splL 10 t).length - 1)) = true := by rw [hsg]; exact hB
          have hT2 : ¬ chT (seg R 0 ((splL 10 t).length - 1)) (seg R 0 ((splL 10 t).length - 1)) = t := by rw [hsg]; exact fun h => hbad ⟨hB, h⟩
          (repeat' ((try (conv => whnf)); first | (with_reducible first | refine And.intro ?_ ?_ | refine WX.of ?_) | exact zc | ((with_reducible refine VC.mk ?_); exact zw) | ((with_reducible refine VC.mk ?_); exact ⟨⟨by omega, by omega⟩, hnm⟩) | ((with_reducible refine VC.mk ?_); exact ⟨⟨by omega, by omega⟩, hB2⟩) | ((with_reducible refine splitT_of ?_ ?_); (focus (simp only [hB2, Bool.not_true, Bool.not_true, Bool.not_false, decide_true, decide_false]; done))) | ((with_reducible refine splitF_of ?_ ?_); (focus (simp only [hB2, Bool.not_true, Bool.not_true, Bool.not_false, decide_true, decide_false]; done))) | ((with_reducible refine splitT_of ?_ ?_); (focus (simp only [hT2, ne_eq, not_false_eq_true, decide_true, Bool.not_true, Bool.not_false, decide_true, decide_false]; done))) | ((with_reducible refine splitF_of ?_ ?_); (focus (simp only [hT2, ne_eq, not_false_eq_true, decide_true, Bool.not_true, Bool.not_false, decide_true, decide_false]; done))) | (with_reducible first | refine splitT ?_ | refine splitF ?_) | ((with_reducible refine splitM.mk (fun hsm => ?_) (fun hsm => ?_)) <;> (try exact zx)) | ((with_reducible refine splitB.mk (fun h => ?_) (fun h => ?_)) <;> (try simp only [zs, ne_eq] at h) <;> (try simp (disch := omega) only [w64] at h) <;> (try exact zx)) | (with_reducible intro hz; (try exact absurd hz (Nat.succ_ne_zero _)))))
        · have hB2 : chB (seg R 0 ((splL 10 t).length - 1)) = false := by rw [hsg]; simpa using hB
          (repeat' ((try (conv => whnf)); first | (with_reducible first | refine And.intro ?_ ?_ | refine WX.of ?_) | exact zc | ((with_reducible refine VC.mk ?_); exact zw) | ((with_reducible refine VC.mk ?_); exact ⟨⟨by omega, by omega⟩, hnm⟩) | ((with_reducible refine splitT_of ?_ ?_); (focus (simp only [hB2, Bool.not_false, Bool.not_true, Bool.not_false, decide_true, decide_false]; done))) | ((with_reducible refine splitF_of ?_ ?_); (focus (simp only [hB2, Bool.not_false, Bool.not_true, Bool.not_false, decide_true, decide_false]; done))) | (with_reducible first | refine splitT ?_ | refine splitF ?_) | ((with_reducible refine splitM.mk (fun hsm => ?_) (fun hsm => ?_)) <;> (try exact zx)) | ((with_reducible refine splitB.mk (fun h => ?_) (fun h => ?_)) <;> (try simp only [zs, ne_eq] at h) <;> (try simp (disch := omega) only [w64] at h) <;> (try exact zx)) | (with_reducible intro hz; (try exact absurd hz (Nat.succ_ne_zero _)))))
end Go.Proofs.YtamachahlhlhlaaGreatDoor.Eng
set_option linter.unusedVariables false
set_option linter.unusedSimpArgs false
namespace Go.Proofs.YtamachahlhlhlaaGreatDoor.Eng
open Go Go.RowKit
set_option maxRecDepth 100000
/-- A row of marks: from k on, c to an element. -/
def marks {α : Type} (f : Int → α) (c : Nat) (k : Int) (n : Nat) : List α := (List.range n).map fun i : Nat => f (k + c * (i : Int))
theorem marks_len {α : Type} {f : Int → α} {c : Nat} {k : Int} {n : Nat} : (marks f c k n).length = n := by simp [marks]
theorem marks_get {α : Type} {f : Int → α} {c : Nat} {k : Int} {n i : Nat} (h : i < n) : (marks f c k n)[i]? = some (f (k + c * i)) := by
  unfold marks
  rw [List.getElem?_map, List.getElem?_range h]; rfl
theorem mark_at {α : Type} {M l : List α} {i : Nat} {a : α} (hm : M.length = l.length) (ha : l[i]? = some a) : (M.take i ++ l.drop i)[i]? = some a := by
  have hi := (List.getElem?_eq_some_iff.1 ha).1
  rw [List.getElem?_append_right (by rw [List.length_take]; omega), List.length_take, show i - min i M.length = 0 by omega, List.getElem?_drop]; exact ha
theorem mark_step {α : Type} {M l : List α} {i : Nat} {b : α} (hm : M.length = l.length) (hb : M[i]? = some b) : (M.take i ++ l.drop i).set i b = M.take (i + 1) ++ l.drop (i + 1) := by
  have hi := (List.getElem?_eq_some_iff.1 hb).1
  have h1 : (M.take i).length = i := by rw [List.length_take]; omega
  rw [List.set_append_right _ _ (by omega), h1, Nat.sub_self, List.take_add_one, hb, List.drop_eq_getElem_cons (show i < l.length by omega), List.set_cons_zero]
  simp
theorem mark_end {α : Type} {M l : List α} {n : Nat} (hm : M.length = n) (hl : l.length = n) : M.take n ++ l.drop n = M := by
  rw [List.take_of_length_le (by omega), List.drop_eq_nil_of_le (by omega), List.append_nil]
theorem atL_set {α : Type} {l : List α} {i : Nat} {b : α} {K : α → Prop} (hl : i < l.length) (h : K b) : atL (l.set (0 + ((i : Nat) : Int).toNat) b) (0 + ((i : Nat) : Int).toNat) K :=
  atL_iff.2 ⟨b, by simp [hl], h⟩
end Go.Proofs.YtamachahlhlhlaaGreatDoor.Eng
set_option linter.unusedVariables false
set_option linter.unusedSimpArgs false
namespace Go.Proofs.YtamachahlhlhlaaGreatDoor.Eng
open Go Go.RowKit
set_option maxRecDepth 100000
/-- The letter m and the digits of k. -/
def mkGo : Nat → Int → List UInt8 → List UInt8
  | 0, _, out => out
  | f + 1, k, out => if k ≤ 0 then out else mkGo f (k.tdiv 10) (bytesL [IntKind.u8.wrap (48 + k.tmod 10)] ++ out)
def mkTx (k : Int) : List UInt8 := if k ≤ 0 then [109, 48] else 109 :: mkGo k.toNat k []
theorem mkGo_0 (f : Nat) {k : Int} (out : List UInt8) (h : k ≤ 0) : mkGo f k out = out := by
  cases f with
  | zero => rfl
  | succ f => rw [mkGo, if_pos h]
def s_mtext : Spec := fun args S => match args, S with
  | [.int .i64 k], [] => ⟨0 ≤ k ∧ k ≤ 2199023255552, .str (mkTx k), []⟩
  | _, _ => noSpec
theorem ok_markText : SpecOk Tryz.prog 175 s_mtext := by
  intro args S h; unfold s_mtext at h ⊢; (split at h <;> first | exact False.elim h | skip)
  dsimp only at h ⊢
  rename_i k
  refine funW tabOk (E := []) trivial [] (k := 0) (fn := Tryz.f175) rfl rfl rfl rfl rfl rfl ?_
  (repeat' ((try (conv => whnf)); first | (with_reducible first | refine And.intro ?_ ?_ | refine WX.of ?_) | exact zc | ((with_reducible refine VC.mk ?_); exact zw) | (with_reducible first | refine splitT ?_ | refine splitF ?_) | ((with_reducible refine splitM.mk (fun hsm => ?_) (fun hsm => ?_)) <;> (try exact zx)) | ((with_reducible refine splitB.mk (fun h => ?_) (fun h => ?_)) <;> (try simp only [zs, ne_eq] at h) <;> (try simp (disch := omega) only [w64] at h) <;> (try exact zx)) | (with_reducible intro hz; (try exact absurd hz (Nat.succ_ne_zero _)))))
  · exact ⟨by rw [mkTx, if_pos h]⟩
  · refine loopW tabOk (E := []) trivial [] (σ := Nat × Int × List UInt8) (fun i => [(0, .int .i64 i.2.1), (3, .str i.2.2)]) (fun _ => []) (fun i => i.1) (fun i => (0 ≤ i.2.1 ∧ i.2.1 ≤ (i.1 : Int)) ∧ i.2.2.length + i.1 ≤ 2199023255552 ∧ mkGo i.1 i.2.1 i.2.2 = mkGo k.toNat k []) (k.toNat, k, []) ⟨by dsimp only; omega, by dsimp only [List.length_nil]; omega, rfl⟩ ?_ ?_
    · (repeat' ((try (conv => whnf)); first | (with_reducible first | refine And.intro ?_ ?_ | refine WX.of ?_) | exact zc | ((with_reducible refine VC.mk ?_); exact zw) | (with_reducible first | refine splitT ?_ | refine splitF ?_) | ((with_reducible refine splitM.mk (fun hsm => ?_) (fun hsm => ?_)) <;> (try exact zx)) | ((with_reducible refine splitB.mk (fun h => ?_) (fun h => ?_)) <;> (try simp only [zs, ne_eq] at h) <;> (try simp (disch := omega) only [w64] at h) <;> (try exact zx)) | (with_reducible intro hz; (try exact absurd hz (Nat.succ_ne_zero _)))))
    · intro ⟨f, c, out⟩ ⟨⟨hc0, hcf⟩, hl, hg⟩
      dsimp only at hc0 hcf hl hg
      by_cases hlt : c ≤ 0
      · rw [mkGo_0 _ _ hlt] at hg
        (repeat' ((try (conv => whnf)); first | (with_reducible first | refine And.intro ?_ ?_ | refine WX.of ?_) | exact zc | ((with_reducible refine VC.mk ?_); exact zw) | (with_reducible first | refine splitT ?_ | refine splitF ?_) | ((with_reducible refine splitM.mk (fun hsm => ?_) (fun hsm => ?_)) <;> (try exact zx)) | ((with_reducible refine splitB.mk (fun h => ?_) (fun h => ?_)) <;> (try simp only [zs, ne_eq] at h) <;> (try simp (disch := omega) only [w64] at h) <;> (try exact zx)) | (with_reducible intro hz; (try exact absurd hz (Nat.succ_ne_zero _)))))
        · exact ⟨by show 1 + out.length ≤ 9223372036854775807; omega⟩
        · refine ⟨?_⟩
          rw [show mkTx k = 109 :: mkGo k.toNat k [] from if_neg (by omega), ← hg]; rfl
      · have hm : 0 ≤ c.tmod 10 ∧ c.tmod 10 < 10 := ⟨Int.tmod_nonneg _ hc0, Int.tmod_lt_of_pos _ (by omega)⟩
        have hd : c.tdiv 10 = c / 10 := Int.tdiv_eq_ediv_of_nonneg hc0
        obtain ⟨f, rfl⟩ : ∃ g, f = g + 1 := ⟨f - 1, by omega⟩
        rw [mkGo, if_neg hlt] at hg
        (repeat' ((try (conv => whnf)); first | (with_reducible first | refine And.intro ?_ ?_ | refine WX.of ?_) | exact zc | ((with_reducible refine VC.mk ?_); exact zw) | (with_reducible first | refine splitT ?_ | refine splitF ?_) | ((with_reducible refine splitM.mk (fun hsm => ?_) (fun hsm => ?_)) <;> (try exact zx)) | ((with_reducible refine splitB.mk (fun h => ?_) (fun h => ?_)) <;> (try simp only [zs, ne_eq] at h) <;> (try simp (disch := omega) only [w64] at h) <;> (try exact zx)) | (with_reducible intro hz; (try exact absurd hz (Nat.succ_ne_zero _)))))
        · exact ⟨by show 1 + out.length ≤ 9223372036854775807; omega⟩
        · refine ⟨(f, c.tdiv 10, bytesL [IntKind.u8.wrap (48 + c.tmod 10)] ++ out), by dsimp only; omega, ⟨by dsimp only; omega, by simp only [bytesL, List.map_cons, List.map_nil, List.length_append, List.length_cons, List.length_nil]; omega, hg⟩, ?_⟩
          (repeat' ((try (conv => whnf)); first | (with_reducible first | refine And.intro ?_ ?_ | refine WX.of ?_) | exact zc | ((with_reducible refine VC.mk ?_); exact zw) | ((with_reducible refine VC.mk ?_); dsimp only; (rw [w64 (by omega)]; done)) | ((with_reducible refine VC.mk ?_); (show _ = SV.str (bytesL [IntKind.u8.wrap (IntKind.i64.wrap (48 + c.tmod 10))] ++ out)); (rw [w64 (by omega)]; done)) | (with_reducible first | refine splitT ?_ | refine splitF ?_) | ((with_reducible refine splitM.mk (fun hsm => ?_) (fun hsm => ?_)) <;> (try exact zx)) | ((with_reducible refine splitB.mk (fun h => ?_) (fun h => ?_)) <;> (try simp only [zs, ne_eq] at h) <;> (try simp (disch := omega) only [w64] at h) <;> (try exact zx)) | (with_reducible intro hz; (try exact absurd hz (Nat.succ_ne_zero _)))))
end Go.Proofs.YtamachahlhlhlaaGreatDoor.Eng
