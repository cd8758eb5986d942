/- vfrom: lemmas for the proof, no conditions of their own. -/
import Derived.Test.YtpnlbacfofdibaaXcorr
import Derived.Test.YtpnlbacfofdibaaXreaders
import Derived.Test.YtpnlbacfofdibaaXnear
import Derived.Test.YtpnlbacfofdibaaXlawCr
set_option linter.unusedVariables false
set_option linter.unusedSimpArgs false
namespace Go.Proofs.Ytpnlbacfofdibaa.Eng
open Go Go.RowKit
set_option maxRecDepth 100000
abbrev SpT : Type := (Int × Int) × Int × Int
def spB (s : SpT) : Bool := spOk s.1.1 s.1.2 s.2.1 s.2.2
def nspB (s : SpT) : Bool := !spB s
def s_nvSp : Spec := fun args S => match args, S with
  | [.agg [.int .i64 p, .int .i64 q, .int .i64 p', .int .i64 q']], [] => ⟨True, .bool (!spOk p q p' q'), []⟩
  | _, _ => noSpec
theorem ok_areSpans1 : SpecOk Try.prog 134 s_nvSp := by
  intro args S h; unfold s_nvSp at h ⊢; (split at h <;> first | exact False.elim h | skip)
  dsimp only at h ⊢
  refine funW tabOk (E := [(91, s_vSpan)]) ⟨ok_ValidSpan, trivial⟩ [] (k := 0) (fn := Try.f134) rfl rfl rfl rfl rfl rfl ?_
  (repeat' ((try (conv => whnf)); first | (with_reducible first | refine And.intro ?_ ?_ | refine WX.of ?_ | exact VC.mk rfl | exact True.intro | exact VC.mk ⟨rfl, fun e => e⟩ | exact VC.mk ⟨fun e => e, rfl⟩ | exact VC.mk (Nat.le_refl _) | exact drawOk_i (by decide +kernel) (by decide +kernel) (by decide +kernel)) | ((with_reducible refine VC.mk ?_); first | (dsimp only; done) | omega | (congr 1; (try simp (disch := omega) only [w64]); omega) | exact ⟨rfl, rfl⟩ | (refine ⟨?_, ?_, ?_⟩; assumption; assumption; omega) | (refine ⟨Nat.le_trans (Nat.mul_le_mul_left _ (m := 1000) ?_) ?_, ?_⟩; decide; omega; omega)) | with_reducible refine splitT ?_ | with_reducible refine splitF ?_ | ((with_reducible refine splitB.mk (fun h => ?_) (fun h => ?_)) <;> (try simp only [decide_eq_true_eq, decide_eq_false_iff_not, ne_eq, Decidable.not_not, Int.not_lt, Int.not_le, Bool.not_eq_true', Bool.not_eq_false'] at h) <;> (try simp (disch := omega) only [w64] at h) <;> (try (exfalso; first | omega | exact h True.intro | (simp only [and_self, not_true_eq_false] at h; done) | (simp only [beq_self_eq_true, Bool.true_eq_false, reduceCtorEq] at h; done)))) | (with_reducible intro hz; (try exact absurd hz (Nat.succ_ne_zero _)))))
def s_idxSp (g : Nat) : Spec := fun args S => match args, S with
  | [.sl 0 s n x, .fn g' []], [.arr (.prod (.prod (.int .i64) (.int .i64)) (.prod (.int .i64) (.int .i64))) l 4 wr] => ⟨g' = g ∧ s + n ≤ l.length ∧ n ≤ 4611686018427387904, .int .i64 (findI nspB (seg l s n)), [.arr (.prod (.prod (.int .i64) (.int .i64)) (.prod (.int .i64) (.int .i64))) l 4 wr]⟩
  | _, _ => noSpec
theorem ok_idxSp : SpecOk Try.prog 135 (s_idxSp 134) := by
  intro args S h; unfold s_idxSp at h ⊢; (split at h <;> first | exact False.elim h | skip)
  dsimp only at h ⊢
  rename_i s n x g l wr
  obtain ⟨rfl, h1, h2⟩ := h
  have hL := seg_len h1
  refine funW tabOk (E := [(134, s_nvSp)]) ⟨ok_areSpans1, trivial⟩ [] (k := 1) (fn := Try.f135) rfl rfl rfl rfl rfl rfl ?_
  (repeat' ((try (conv => whnf)); first | (with_reducible first | refine And.intro ?_ ?_ | refine WX.of ?_ | exact VC.mk rfl | exact True.intro | exact VC.mk ⟨rfl, fun e => e⟩ | exact VC.mk ⟨fun e => e, rfl⟩ | exact VC.mk (Nat.le_refl _) | exact drawOk_i (by decide +kernel) (by decide +kernel) (by decide +kernel)) | ((with_reducible refine VC.mk ?_); first | (dsimp only; done) | omega | (congr 1; (try simp (disch := omega) only [w64]); omega) | exact ⟨rfl, rfl⟩ | (refine ⟨?_, ?_, ?_⟩; assumption; assumption; omega) | (refine ⟨Nat.le_trans (Nat.mul_le_mul_left _ (m := 1000) ?_) ?_, ?_⟩; decide; omega; omega)) | with_reducible refine splitT ?_ | with_reducible refine splitF ?_ | ((with_reducible refine splitB.mk (fun h => ?_) (fun h => ?_)) <;> (try simp only [decide_eq_true_eq, decide_eq_false_iff_not, ne_eq, Decidable.not_not, Int.not_lt, Int.not_le, Bool.not_eq_true', Bool.not_eq_false'] at h) <;> (try simp (disch := omega) only [w64] at h) <;> (try (exfalso; first | omega | exact h True.intro | (simp only [and_self, not_true_eq_false] at h; done) | (simp only [beq_self_eq_true, Bool.true_eq_false, reduceCtorEq] at h; done)))) | (with_reducible intro hz; (try exact absurd hz (Nat.succ_ne_zero _)))))
  refine loopW tabOk (E := [(134, s_nvSp)]) ⟨ok_areSpans1, trivial⟩ [] (σ := Nat) (fun i => [(0, .sl 0 s n x), (1, .fn 134 []), (7, .int .i64 n), (8, .int .i64 i)]) (fun i => [.arr (.prod (.prod (.int .i64) (.int .i64)) (.prod (.int .i64) (.int .i64))) l 4 wr]) (fun i => n - i) (fun i => i ≤ n ∧ ∀ (j : Nat) a, j < i → (seg l s n)[j]? = some a → nspB a = false) 0 ⟨Nat.zero_le _, fun j a hj => by omega⟩ ?_ ?_
  · (repeat' ((try (conv => whnf)); first | (with_reducible first | refine And.intro ?_ ?_ | refine WX.of ?_ | exact VC.mk rfl | exact True.intro | exact VC.mk ⟨rfl, fun e => e⟩ | exact VC.mk ⟨fun e => e, rfl⟩ | exact VC.mk (Nat.le_refl _) | exact drawOk_i (by decide +kernel) (by decide +kernel) (by decide +kernel)) | ((with_reducible refine VC.mk ?_); first | (dsimp only; done) | omega | (congr 1; (try simp (disch := omega) only [w64]); omega) | exact ⟨rfl, rfl⟩ | (refine ⟨?_, ?_, ?_⟩; assumption; assumption; omega) | (refine ⟨Nat.le_trans (Nat.mul_le_mul_left _ (m := 1000) ?_) ?_, ?_⟩; decide; omega; omega)) | with_reducible refine splitT ?_ | with_reducible refine splitF ?_ | ((with_reducible refine splitB.mk (fun h => ?_) (fun h => ?_)) <;> (try simp only [decide_eq_true_eq, decide_eq_false_iff_not, ne_eq, Decidable.not_not, Int.not_lt, Int.not_le, Bool.not_eq_true', Bool.not_eq_false'] at h) <;> (try simp (disch := omega) only [w64] at h) <;> (try (exfalso; first | omega | exact h True.intro | (simp only [and_self, not_true_eq_false] at h; done) | (simp only [beq_self_eq_true, Bool.true_eq_false, reduceCtorEq] at h; done)))) | (with_reducible intro hz; (try exact absurd hz (Nat.succ_ne_zero _)))))
  · intro i ⟨hi, hp⟩
    by_cases hlt : i < n
    · obtain ⟨a, ha⟩ := get_some (l := seg l s n) (i := i) (by omega)
      (repeat' ((try (conv => whnf)); first | (with_reducible first | refine And.intro ?_ ?_ | refine WX.of ?_ | exact VC.mk rfl | exact True.intro | exact VC.mk ⟨rfl, fun e => e⟩ | exact VC.mk ⟨fun e => e, rfl⟩ | exact VC.mk (Nat.le_refl _) | exact drawOk_i (by decide +kernel) (by decide +kernel) (by decide +kernel)) | ((with_reducible refine VC.mk ?_); first | (dsimp only; done) | omega | (congr 1; (try simp (disch := omega) only [w64]); omega) | exact ⟨rfl, rfl⟩ | (refine ⟨?_, ?_, ?_⟩; assumption; assumption; omega) | (refine ⟨Nat.le_trans (Nat.mul_le_mul_left _ (m := 1000) ?_) ?_, ?_⟩; decide; omega; omega)) | refine atL_i ha ?_ | with_reducible refine splitT ?_ | with_reducible refine splitF ?_ | ((with_reducible refine splitB.mk (fun h => ?_) (fun h => ?_)) <;> (try simp only [decide_eq_true_eq, decide_eq_false_iff_not, ne_eq, Decidable.not_not, Int.not_lt, Int.not_le, Bool.not_eq_true', Bool.not_eq_false'] at h) <;> (try simp (disch := omega) only [w64] at h) <;> (try (exfalso; first | omega | exact h True.intro | (simp only [and_self, not_true_eq_false] at h; done) | (simp only [beq_self_eq_true, Bool.true_eq_false, reduceCtorEq] at h; done)))) | (with_reducible intro hz; (try exact absurd hz (Nat.succ_ne_zero _)))))
      · exact ⟨by rw [findI_some ha (by simpa [nspB, spB] using h) hp]⟩
      · refine ⟨i + 1, by omega, ⟨hlt, upto_step ha (by simpa [nspB, spB] using h) hp⟩, ?_⟩
        (repeat' ((try (conv => whnf)); first | (with_reducible first | refine And.intro ?_ ?_ | refine WX.of ?_ | exact VC.mk rfl | exact True.intro | exact VC.mk ⟨rfl, fun e => e⟩ | exact VC.mk ⟨fun e => e, rfl⟩ | exact VC.mk (Nat.le_refl _) | exact drawOk_i (by decide +kernel) (by decide +kernel) (by decide +kernel)) | ((with_reducible refine VC.mk ?_); first | (dsimp only; done) | omega | (congr 1; (try simp (disch := omega) only [w64]); omega) | exact ⟨rfl, rfl⟩ | (refine ⟨?_, ?_, ?_⟩; assumption; assumption; omega) | (refine ⟨Nat.le_trans (Nat.mul_le_mul_left _ (m := 1000) ?_) ?_, ?_⟩; decide; omega; omega)) | with_reducible refine splitT ?_ | with_reducible refine splitF ?_ | ((with_reducible refine splitB.mk (fun h => ?_) (fun h => ?_)) <;> (try simp only [decide_eq_true_eq, decide_eq_false_iff_not, ne_eq, Decidable.not_not, Int.not_lt, Int.not_le, Bool.not_eq_true', Bool.not_eq_false'] at h) <;> (try simp (disch := omega) only [w64] at h) <;> (try (exfalso; first | omega | exact h True.intro | (simp only [and_self, not_true_eq_false] at h; done) | (simp only [beq_self_eq_true, Bool.true_eq_false, reduceCtorEq] at h; done)))) | (with_reducible intro hz; (try exact absurd hz (Nat.succ_ne_zero _)))))
    · (repeat' ((try (conv => whnf)); first | (with_reducible first | refine And.intro ?_ ?_ | refine WX.of ?_ | exact VC.mk rfl | exact True.intro | exact VC.mk ⟨rfl, fun e => e⟩ | exact VC.mk ⟨fun e => e, rfl⟩ | exact VC.mk (Nat.le_refl _) | exact drawOk_i (by decide +kernel) (by decide +kernel) (by decide +kernel)) | ((with_reducible refine VC.mk ?_); first | (dsimp only; done) | omega | (congr 1; (try simp (disch := omega) only [w64]); omega) | exact ⟨rfl, rfl⟩ | (refine ⟨?_, ?_, ?_⟩; assumption; assumption; omega) | (refine ⟨Nat.le_trans (Nat.mul_le_mul_left _ (m := 1000) ?_) ?_, ?_⟩; decide; omega; omega)) | with_reducible refine splitT ?_ | with_reducible refine splitF ?_ | ((with_reducible refine splitB.mk (fun h => ?_) (fun h => ?_)) <;> (try simp only [decide_eq_true_eq, decide_eq_false_iff_not, ne_eq, Decidable.not_not, Int.not_lt, Int.not_le, Bool.not_eq_true', Bool.not_eq_false'] at h) <;> (try simp (disch := omega) only [w64] at h) <;> (try (exfalso; first | omega | exact h True.intro | (simp only [and_self, not_true_eq_false] at h; done) | (simp only [beq_self_eq_true, Bool.true_eq_false, reduceCtorEq] at h; done)))) | (with_reducible intro hz; (try exact absurd hz (Nat.succ_ne_zero _)))))
      exact ⟨by rw [findI_none fun j a hj => hp j a (by have := (List.getElem?_eq_some_iff.1 hj).1; omega) hj]⟩
def s_anySp (g : Nat) : Spec := fun args S => match args, S with
  | [.sl 0 s n x, .fn g' []], [.arr (.prod (.prod (.int .i64) (.int .i64)) (.prod (.int .i64) (.int .i64))) l 4 wr] => ⟨g' = g ∧ s + n ≤ l.length ∧ n ≤ 4611686018427387904, .bool ((seg l s n).any nspB), [.arr (.prod (.prod (.int .i64) (.int .i64)) (.prod (.int .i64) (.int .i64))) l 4 wr]⟩
  | _, _ => noSpec
theorem ok_anySp : SpecOk Try.prog 133 (s_anySp 134) := by
  intro args S h; unfold s_anySp at h ⊢; (split at h <;> first | exact False.elim h | skip)
  dsimp only at h ⊢
  rename_i s n x g l wr
  obtain ⟨rfl, h1, h2⟩ := h
  refine funW tabOk (E := [(135, (s_idxSp 134))]) ⟨ok_idxSp, trivial⟩ [] (k := 1) (fn := Try.f133) rfl rfl rfl rfl rfl rfl ?_
  (repeat' ((try (conv => whnf)); first | (with_reducible first | refine And.intro ?_ ?_ | refine WX.of ?_ | exact VC.mk rfl | exact True.intro | exact VC.mk ⟨rfl, fun e => e⟩ | exact VC.mk ⟨fun e => e, rfl⟩ | exact VC.mk (Nat.le_refl _) | exact drawOk_i (by decide +kernel) (by decide +kernel) (by decide +kernel)) | ((with_reducible refine VC.mk ?_); first | (dsimp only; done) | omega | (congr 1; (try simp (disch := omega) only [w64]); omega) | exact ⟨rfl, rfl⟩ | (refine ⟨?_, ?_, ?_⟩; assumption; assumption; omega) | (refine ⟨Nat.le_trans (Nat.mul_le_mul_left _ (m := 1000) ?_) ?_, ?_⟩; decide; omega; omega)) | with_reducible refine splitT ?_ | with_reducible refine splitF ?_ | ((with_reducible refine splitB.mk (fun h => ?_) (fun h => ?_)) <;> (try simp only [decide_eq_true_eq, decide_eq_false_iff_not, ne_eq, Decidable.not_not, Int.not_lt, Int.not_le, Bool.not_eq_true', Bool.not_eq_false'] at h) <;> (try simp (disch := omega) only [w64] at h) <;> (try (exfalso; first | omega | exact h True.intro | (simp only [and_self, not_true_eq_false] at h; done) | (simp only [beq_self_eq_true, Bool.true_eq_false, reduceCtorEq] at h; done)))) | (with_reducible intro hz; (try exact absurd hz (Nat.succ_ne_zero _)))))
  exact ⟨by rw [findI_any]⟩
def s_areSp : Spec := fun args S => match args, S with
  | [.sl 0 s n x], [.arr (.prod (.prod (.int .i64) (.int .i64)) (.prod (.int .i64) (.int .i64))) l 4 wr] => ⟨s + n ≤ l.length ∧ n ≤ 4611686018427387904, .bool ((seg l s n).all spB), [.arr (.prod (.prod (.int .i64) (.int .i64)) (.prod (.int .i64) (.int .i64))) l 4 wr]⟩
  | _, _ => noSpec
theorem ok_areSpans : SpecOk Try.prog 129 s_areSp := by
  intro args S h; unfold s_areSp at h ⊢; (split at h <;> first | exact False.elim h | skip)
  dsimp only at h ⊢
  refine funW tabOk (E := [(133, (s_anySp 134))]) ⟨ok_anySp, trivial⟩ [] (k := 1) (fn := Try.f129) rfl rfl rfl rfl rfl rfl ?_
  (repeat' ((try (conv => whnf)); first | (with_reducible first | refine And.intro ?_ ?_ | refine WX.of ?_ | exact VC.mk rfl | exact True.intro | exact VC.mk ⟨rfl, fun e => e⟩ | exact VC.mk ⟨fun e => e, rfl⟩ | exact VC.mk (Nat.le_refl _) | exact drawOk_i (by decide +kernel) (by decide +kernel) (by decide +kernel)) | ((with_reducible refine VC.mk ?_); first | (dsimp only; done) | omega | (congr 1; (try simp (disch := omega) only [w64]); omega) | exact ⟨rfl, rfl⟩ | (refine ⟨?_, ?_, ?_⟩; assumption; assumption; omega) | (refine ⟨Nat.le_trans (Nat.mul_le_mul_left _ (m := 1000) ?_) ?_, ?_⟩; decide; omega; omega)) | with_reducible refine splitT ?_ | with_reducible refine splitF ?_ | ((with_reducible refine splitB.mk (fun h => ?_) (fun h => ?_)) <;> (try simp only [decide_eq_true_eq, decide_eq_false_iff_not, ne_eq, Decidable.not_not, Int.not_lt, Int.not_le, Bool.not_eq_true', Bool.not_eq_false'] at h) <;> (try simp (disch := omega) only [w64] at h) <;> (try (exfalso; first | omega | exact h True.intro | (simp only [and_self, not_true_eq_false] at h; done) | (simp only [beq_self_eq_true, Bool.true_eq_false, reduceCtorEq] at h; done)))) | (with_reducible intro hz; (try exact absurd hz (Nat.succ_ne_zero _)))))
  all_goals (refine ⟨?_⟩; rw [List.all_eq_not_any_not]; rfl)
/-- What is in both. -/
def mtS (a b : SpT) : SpT := (moF a.1.1 a.1.2 b.1.1 b.1.2, leF a.2.1 a.2.2 b.2.1 b.2.2)
def mtOk (a b : SpT) : Bool := decide ((mtS a b).1.1 * (mtS a b).2.2 ≤ (mtS a b).2.1 * (mtS a b).1.2)
theorem spB_f {s : SpT} (h : spB s = true) : fOk s.1.1 s.1.2 = true ∧ fOk s.2.1 s.2.2 = true ∧ s.1.1 * s.2.2 ≤ s.2.1 * s.1.2 := by
  unfold spB at h; rw [spOk_iff] at h; exact h
theorem mo_fOk {p q p' q' : Int} (h : fOk p q = true) (h' : fOk p' q' = true) : fOk (moF p q p' q').1 (moF p q p' q').2 = true := by unfold moF; split <;> assumption
theorem le_fOk {p q p' q' : Int} (h : fOk p q = true) (h' : fOk p' q' = true) : fOk (leF p q p' q').1 (leF p q p' q').2 = true := by unfold leF; split <;> assumption
theorem mt_ok {a b : SpT} (ha : spB a = true) (hb : spB b = true) : spB (mtS a b) = mtOk a b := by
  have h1 := spB_f ha
  have h2 := spB_f hb
  unfold spB mtOk spOk
  unfold mtS
  dsimp only
  rw [mo_fOk h1.1 h2.1, le_fOk h1.2.1 h2.2.1]; rfl
theorem mt_self {a : SpT} (ha : spB a = true) : mtS a a = a ∧ mtOk a a = true := by
  have e : mtS a a = a := by unfold mtS moF leF; simp
  exact ⟨e, by rw [← mt_ok ha ha, e]; exact ha⟩
def s_MeetSp : Spec := fun args S => match args, S with
  | [.agg [.int .i64 p, .int .i64 q, .int .i64 p', .int .i64 q'], .agg [.int .i64 r, .int .i64 s, .int .i64 r', .int .i64 s']], [] => ⟨spB ((p, q), p', q') = true ∧ spB ((r, s), r', s') = true, .tup [.agg [.int .i64 (if mtOk ((p, q), p', q') ((r, s), r', s') = true then (mtS ((p, q), p', q') ((r, s), r', s')).1.1 else 0), .int .i64 (if mtOk ((p, q), p', q') ((r, s), r', s') = true then (mtS ((p, q), p', q') ((r, s), r', s')).1.2 else 0), .int .i64 (if mtOk ((p, q), p', q') ((r, s), r', s') = true then (mtS ((p, q), p', q') ((r, s), r', s')).2.1 else 0), .int .i64 (if mtOk ((p, q), p', q') ((r, s), r', s') = true then (mtS ((p, q), p', q') ((r, s), r', s')).2.2 else 0)], .int .i64 (if mtOk ((p, q), p', q') ((r, s), r', s') = true then 0 else 6)], []⟩
  | _, _ => noSpec
theorem ok_MeetSpans : SpecOk Try.prog 116 s_MeetSp := by
  intro args S h; unfold s_MeetSp at h ⊢; (split at h <;> first | exact False.elim h | skip)
  dsimp only at h ⊢
  rename_i p q p' q' r s r' s'
  obtain ⟨h1, h2⟩ := h
  have g1 := spB_f h1
  have g2 := spB_f h2
  have hal : List.all (seg [((p, q), p', q'), ((r, s), r', s')] 0 2) spB = true := by simp [seg, h1, h2]
  have hm := mt_ok h1 h2
  refine funW tabOk (E := [(129, s_areSp), (130, s_more), (131, s_less), (91, s_vSpan)]) ⟨ok_areSpans, ok_greater, ok_lesser, ok_ValidSpan, trivial⟩ [(3, [(6, 0), (8, 0), (11, 0), (11, 1)])] (k := 0) (fn := Try.f116) rfl rfl rfl rfl rfl rfl ?_
  (repeat' ((try (conv => whnf)); first | (with_reducible first | refine And.intro ?_ ?_ | refine WX.of ?_ | exact VC.mk rfl | exact True.intro | exact VC.mk ⟨rfl, fun e => e⟩ | exact VC.mk ⟨fun e => e, rfl⟩ | exact VC.mk (Nat.le_refl _) | exact drawOk_i (by decide +kernel) (by decide +kernel) (by decide +kernel)) | ((with_reducible refine VC.mk ?_); first | (dsimp only; done) | omega | (congr 1; (try simp (disch := omega) only [w64]); omega) | exact ⟨rfl, rfl⟩ | (refine ⟨?_, ?_, ?_⟩; assumption; assumption; omega) | (refine ⟨Nat.le_trans (Nat.mul_le_mul_left _ (m := 1000) ?_) ?_, ?_⟩; decide; omega; omega)) | ((with_reducible refine splitT_of ?_ ?_); (focus (simp only [hal, Bool.not_true, Bool.not_false, decide_true, decide_false]; done))) | ((with_reducible refine splitF_of ?_ ?_); (focus (simp only [hal, Bool.not_true, Bool.not_false, decide_true, decide_false]; done))) | ((with_reducible refine VC.mk ?_); exact ⟨smF_ok g1.1, smF_ok g2.1⟩) | ((with_reducible refine VC.mk ?_); exact ⟨smF_ok g1.2.1, smF_ok g2.2.1⟩) | with_reducible refine splitT ?_ | with_reducible refine splitF ?_ | ((with_reducible refine splitB.mk (fun h => ?_) (fun h => ?_)) <;> (try simp only [decide_eq_true_eq, decide_eq_false_iff_not, ne_eq, Decidable.not_not, Int.not_lt, Int.not_le, Bool.not_eq_true', Bool.not_eq_false'] at h) <;> (try simp (disch := omega) only [w64] at h) <;> (try (exfalso; first | omega | exact h True.intro | (simp only [and_self, not_true_eq_false] at h; done) | (simp only [beq_self_eq_true, Bool.true_eq_false, reduceCtorEq] at h; done)))) | (with_reducible intro hz; (try exact absurd hz (Nat.succ_ne_zero _)))))
  · exact ⟨⟨Nat.le_refl 2, by omega⟩⟩
  · have hb : mtOk ((p, q), p', q') ((r, s), r', s') = false := by rw [← hm]; exact h
    exact ⟨by simp only [hb, if_false, Bool.false_eq_true]⟩
  · have hb : mtOk ((p, q), p', q') ((r, s), r', s') = true := by rw [← hm]; exact h
    exact ⟨by simp only [hb, if_true]; rfl⟩
/-- What is in the first i of some spans. -/
def mtN (W : List SpT) : Nat → Option SpT
  | 0 => W[0]?
  | i + 1 => match mtN W i, W[i]? with
    | some s, some a => if mtOk s a = true then some (mtS s a) else none
    | _, _ => none
theorem mtN_none {W : List SpT} {i : Nat} (h : mtN W i = none) : ∀ (j : Nat), mtN W (i + j) = none
  | 0 => h
  | j + 1 => by have := mtN_none h j; rw [← Nat.add_assoc, mtN, this]
theorem mtN_step {W : List SpT} {i : Nat} {s a : SpT} (h : mtN W i = some s) (ha : W[i]? = some a) : mtN W (i + 1) = if mtOk s a = true then some (mtS s a) else none := by rw [mtN, h, ha]
theorem mtN_ok {W : List SpT} (hW : ∀ a ∈ W, spB a = true) : ∀ {i : Nat} {s : SpT}, mtN W i = some s → spB s = true
  | 0, s, h => hW s (List.mem_of_getElem? h)
  | i + 1, s, h => by
    rw [mtN] at h
    split at h
    · rename_i s' a h1 h2
      split at h
      · rename_i hk
        obtain rfl := Option.some.inj h
        rw [mt_ok (mtN_ok hW h1) (hW a (List.mem_of_getElem? h2))]; exact hk
      · simp at h
    · simp at h
def s_mAll : Spec := fun args S => match args, S with
  | [.sl 0 s n x], [.arr (.prod (.prod (.int .i64) (.int .i64)) (.prod (.int .i64) (.int .i64))) l 4 wr] => ⟨s + n ≤ l.length ∧ 1 ≤ n ∧ n ≤ 1048576 ∧ ∀ a ∈ seg l s n, spB a = true, .tup [.agg [.int .i64 ((mtN (seg l s n) n).getD ((0, 0), 0, 0)).1.1, .int .i64 ((mtN (seg l s n) n).getD ((0, 0), 0, 0)).1.2, .int .i64 ((mtN (seg l s n) n).getD ((0, 0), 0, 0)).2.1, .int .i64 ((mtN (seg l s n) n).getD ((0, 0), 0, 0)).2.2], .int .i64 (if (mtN (seg l s n) n).isSome = true then 0 else 6)], [.arr (.prod (.prod (.int .i64) (.int .i64)) (.prod (.int .i64) (.int .i64))) l 4 wr]⟩
  | _, _ => noSpec
theorem ok_meetAll : SpecOk Try.prog 83 s_mAll := by
  intro args S h; unfold s_mAll at h ⊢; (split at h <;> first | exact False.elim h | skip)
  dsimp only at h ⊢
  rename_i s n x l wr
  obtain ⟨h1, h2, h3, hW⟩ := h
  have hL := seg_len h1
  obtain ⟨⟨⟨p0, q0⟩, r0, s0⟩, h0⟩ := get_some (l := seg l s n) (i := 0) (by omega)
  refine funW tabOk (E := [(116, s_MeetSp)]) ⟨ok_MeetSpans, trivial⟩ [] (k := 1) (fn := Try.f83) rfl rfl rfl rfl rfl rfl ?_
  (repeat' ((try (conv => whnf)); first | (with_reducible first | refine And.intro ?_ ?_ | refine WX.of ?_ | exact VC.mk rfl | exact True.intro | exact VC.mk ⟨rfl, fun e => e⟩ | exact VC.mk ⟨fun e => e, rfl⟩ | exact VC.mk (Nat.le_refl _) | exact drawOk_i (by decide +kernel) (by decide +kernel) (by decide +kernel)) | ((with_reducible refine VC.mk ?_); first | (dsimp only; done) | omega | (congr 1; (try simp (disch := omega) only [w64]); omega) | exact ⟨rfl, rfl⟩ | (refine ⟨?_, ?_, ?_⟩; assumption; assumption; omega) | (refine ⟨Nat.le_trans (Nat.mul_le_mul_left _ (m := 1000) ?_) ?_, ?_⟩; decide; omega; omega)) | with_reducible refine atL_p (by simpa using (seg_get h0).1) ?_ | with_reducible refine splitT ?_ | with_reducible refine splitF ?_ | ((with_reducible refine splitB.mk (fun h => ?_) (fun h => ?_)) <;> (try simp only [decide_eq_true_eq, decide_eq_false_iff_not, ne_eq, Decidable.not_not, Int.not_lt, Int.not_le, Bool.not_eq_true', Bool.not_eq_false'] at h) <;> (try simp (disch := omega) only [w64] at h) <;> (try (exfalso; first | omega | exact h True.intro | (simp only [and_self, not_true_eq_false] at h; done) | (simp only [beq_self_eq_true, Bool.true_eq_false, reduceCtorEq] at h; done)))) | (with_reducible intro hz; (try exact absurd hz (Nat.succ_ne_zero _)))))
  have hm0 : mtN (seg l s n) 0 = some ((p0, q0), r0, s0) := h0
  refine loopW tabOk (E := [(116, s_MeetSp)]) ⟨ok_MeetSpans, trivial⟩ [] (σ := Nat × SpT) (fun z => [(2, .ptr 1 0 0), (4, .ptr 2 0 0), (11, .sl 0 s n x), (12, .int .i64 n), (13, .int .i64 z.1)]) (fun z => [.arr (.prod (.prod (.int .i64) (.int .i64)) (.prod (.int .i64) (.int .i64))) l 4 wr, .arr (.prod (.prod (.int .i64) (.int .i64)) (.prod (.int .i64) (.int .i64))) [((0, 0), 0, 0)] 0 true, .arr (.prod (.prod (.int .i64) (.int .i64)) (.prod (.int .i64) (.int .i64))) [z.2] 0 true]) (fun z => n - z.1) (fun z => z.1 ≤ n ∧ mtN (seg l s n) z.1 = some z.2) (0, ((p0, q0), r0, s0)) ⟨Nat.zero_le _, hm0⟩ ?_ ?_
  · (repeat' ((try (conv => whnf)); first | (with_reducible first | refine And.intro ?_ ?_ | refine WX.of ?_ | exact VC.mk rfl | exact True.intro | exact VC.mk ⟨rfl, fun e => e⟩ | exact VC.mk ⟨fun e => e, rfl⟩ | exact VC.mk (Nat.le_refl _) | exact drawOk_i (by decide +kernel) (by decide +kernel) (by decide +kernel)) | ((with_reducible refine VC.mk ?_); first | (dsimp only; done) | omega | (congr 1; (try simp (disch := omega) only [w64]); omega) | exact ⟨rfl, rfl⟩ | (refine ⟨?_, ?_, ?_⟩; assumption; assumption; omega) | (refine ⟨Nat.le_trans (Nat.mul_le_mul_left _ (m := 1000) ?_) ?_, ?_⟩; decide; omega; omega)) | with_reducible refine splitT ?_ | with_reducible refine splitF ?_ | ((with_reducible refine splitB.mk (fun h => ?_) (fun h => ?_)) <;> (try simp only [decide_eq_true_eq, decide_eq_false_iff_not, ne_eq, Decidable.not_not, Int.not_lt, Int.not_le, Bool.not_eq_true', Bool.not_eq_false'] at h) <;> (try simp (disch := omega) only [w64] at h) <;> (try (exfalso; first | omega | exact h True.intro | (simp only [and_self, not_true_eq_false] at h; done) | (simp only [beq_self_eq_true, Bool.true_eq_false, reduceCtorEq] at h; done)))) | (with_reducible intro hz; (try exact absurd hz (Nat.succ_ne_zero _)))))
  · intro ⟨i, ⟨⟨cp, cq⟩, cr, cs⟩⟩ ⟨hi, hm⟩
    dsimp only at hi hm ⊢
    have hc := mtN_ok hW hm
    by_cases hlt : i < n
    · obtain ⟨⟨⟨p, q⟩, r, s1⟩, ha⟩ := get_some (l := seg l s n) (i := i) (by omega)
      have hw := hW _ (List.mem_of_getElem? ha)
      have hst := mtN_step hm ha
      cases hk : mtOk ((cp, cq), cr, cs) ((p, q), r, s1) with
      | false =>
        rw [hk, if_neg (by simp)] at hst
        have hnn : mtN (seg l s n) n = none := by have := mtN_none hst (n - (i + 1)); rwa [show i + 1 + (n - (i + 1)) = n by omega] at this
        (repeat' ((try (conv => whnf)); first | (with_reducible first | refine And.intro ?_ ?_ | refine WX.of ?_ | exact VC.mk rfl | exact True.intro | exact VC.mk ⟨rfl, fun e => e⟩ | exact VC.mk ⟨fun e => e, rfl⟩ | exact VC.mk (Nat.le_refl _) | exact drawOk_i (by decide +kernel) (by decide +kernel) (by decide +kernel)) | ((with_reducible refine VC.mk ?_); first | (dsimp only; done) | omega | (congr 1; (try simp (disch := omega) only [w64]); omega) | exact ⟨rfl, rfl⟩ | (refine ⟨?_, ?_, ?_⟩; assumption; assumption; omega) | (refine ⟨Nat.le_trans (Nat.mul_le_mul_left _ (m := 1000) ?_) ?_, ?_⟩; decide; omega; omega)) | with_reducible refine atL_i ha ?_ | ((with_reducible refine VC.mk ?_); exact ⟨hc, hw⟩) | with_reducible refine splitT ?_ | with_reducible refine splitF ?_ | ((with_reducible refine splitB.mk (fun h => ?_) (fun h => ?_)) <;> (try simp only [decide_eq_true_eq, decide_eq_false_iff_not, ne_eq, Decidable.not_not, Int.not_lt, Int.not_le, Bool.not_eq_true', Bool.not_eq_false'] at h) <;> (try simp (disch := omega) only [w64] at h) <;> (try (exfalso; first | omega | exact h True.intro | (simp only [and_self, not_true_eq_false] at h; done) | (simp only [beq_self_eq_true, Bool.true_eq_false, reduceCtorEq] at h; done)))) | (with_reducible intro hz; (try exact absurd hz (Nat.succ_ne_zero _)))))
        · exact ⟨by simp [hnn, hk]⟩
        · simp [hk] at h
      | true =>
        rw [hk, if_pos rfl] at hst
        (repeat' ((try (conv => whnf)); first | (with_reducible first | refine And.intro ?_ ?_ | refine WX.of ?_ | exact VC.mk rfl | exact True.intro | exact VC.mk ⟨rfl, fun e => e⟩ | exact VC.mk ⟨fun e => e, rfl⟩ | exact VC.mk (Nat.le_refl _) | exact drawOk_i (by decide +kernel) (by decide +kernel) (by decide +kernel)) | ((with_reducible refine VC.mk ?_); first | (dsimp only; done) | omega | (congr 1; (try simp (disch := omega) only [w64]); omega) | exact ⟨rfl, rfl⟩ | (refine ⟨?_, ?_, ?_⟩; assumption; assumption; omega) | (refine ⟨Nat.le_trans (Nat.mul_le_mul_left _ (m := 1000) ?_) ?_, ?_⟩; decide; omega; omega)) | with_reducible refine atL_i ha ?_ | ((with_reducible refine VC.mk ?_); exact ⟨hc, hw⟩) | with_reducible refine splitT ?_ | with_reducible refine splitF ?_ | ((with_reducible refine splitB.mk (fun h => ?_) (fun h => ?_)) <;> (try simp only [decide_eq_true_eq, decide_eq_false_iff_not, ne_eq, Decidable.not_not, Int.not_lt, Int.not_le, Bool.not_eq_true', Bool.not_eq_false'] at h) <;> (try simp (disch := omega) only [w64] at h) <;> (try (exfalso; first | omega | exact h True.intro | (simp only [and_self, not_true_eq_false] at h; done) | (simp only [beq_self_eq_true, Bool.true_eq_false, reduceCtorEq] at h; done)))) | (with_reducible intro hz; (try exact absurd hz (Nat.succ_ne_zero _)))))
        · simp [hk] at h
        · refine ⟨(i + 1, mtS ((cp, cq), cr, cs) ((p, q), r, s1)), by dsimp only; omega, ⟨hlt, hst⟩, ?_⟩
          (repeat' ((try (conv => whnf)); first | (with_reducible first | refine And.intro ?_ ?_ | refine WX.of ?_ | exact VC.mk rfl | exact True.intro | exact VC.mk ⟨rfl, fun e => e⟩ | exact VC.mk ⟨fun e => e, rfl⟩ | exact VC.mk (Nat.le_refl _) | exact drawOk_i (by decide +kernel) (by decide +kernel) (by decide +kernel)) | ((with_reducible refine VC.mk ?_); first | (dsimp only; done) | omega | (congr 1; (try simp (disch := omega) only [w64]); omega) | exact ⟨rfl, rfl⟩ | (refine ⟨?_, ?_, ?_⟩; assumption; assumption; omega) | (refine ⟨Nat.le_trans (Nat.mul_le_mul_left _ (m := 1000) ?_) ?_, ?_⟩; decide; omega; omega)) | with_reducible refine splitT ?_ | with_reducible refine splitF ?_ | ((with_reducible refine splitB.mk (fun h => ?_) (fun h => ?_)) <;> (try simp only [decide_eq_true_eq, decide_eq_false_iff_not, ne_eq, Decidable.not_not, Int.not_lt, Int.not_le, Bool.not_eq_true', Bool.not_eq_false'] at h) <;> (try simp (disch := omega) only [w64] at h) <;> (try (exfalso; first | omega | exact h True.intro | (simp only [and_self, not_true_eq_false] at h; done) | (simp only [beq_self_eq_true, Bool.true_eq_false, reduceCtorEq] at h; done)))) | (with_reducible intro hz; (try exact absurd hz (Nat.succ_ne_zero _)))))
          all_goals (refine ⟨?_⟩; simp only [hk, if_true]; rfl)
    · obtain rfl : i = n := by omega
      rw [hm]
      (repeat' ((try (conv => whnf)); first | (with_reducible first | refine And.intro ?_ ?_ | refine WX.of ?_ | exact VC.mk rfl | exact True.intro | exact VC.mk ⟨rfl, fun e => e⟩ | exact VC.mk ⟨fun e => e, rfl⟩ | exact VC.mk (Nat.le_refl _) | exact drawOk_i (by decide +kernel) (by decide +kernel) (by decide +kernel)) | ((with_reducible refine VC.mk ?_); first | (dsimp only; done) | omega | (congr 1; (try simp (disch := omega) only [w64]); omega) | exact ⟨rfl, rfl⟩ | (refine ⟨?_, ?_, ?_⟩; assumption; assumption; omega) | (refine ⟨Nat.le_trans (Nat.mul_le_mul_left _ (m := 1000) ?_) ?_, ?_⟩; decide; omega; omega)) | with_reducible refine splitT ?_ | with_reducible refine splitF ?_ | ((with_reducible refine splitB.mk (fun h => ?_) (fun h => ?_)) <;> (try simp only [decide_eq_true_eq, decide_eq_false_iff_not, ne_eq, Decidable.not_not, Int.not_lt, Int.not_le, Bool.not_eq_true', Bool.not_eq_false'] at h) <;> (try simp (disch := omega) only [w64] at h) <;> (try (exfalso; first | omega | exact h True.intro | (simp only [and_self, not_true_eq_false] at h; done) | (simp only [beq_self_eq_true, Bool.true_eq_false, reduceCtorEq] at h; done)))) | (with_reducible intro hz; (try exact absurd hz (Nat.succ_ne_zero _)))))
/-- The spans of what several readers have read. -/
def vfW (R : List RdT) (L : List Int) : List SpT := (R.zip L).map fun x => spN x.1.2.1 x.1.2.2.1 x.2
def vfM (R : List RdT) (L : List Int) : Bool := (R.zip L).all fun x => decide (x.2.tmod x.1.2.2.1 = 0)
def vfC (R : List RdT) (L : List Int) : Int := if allR R = true then (if areB L = true then (if R.length = L.length ∧ R.length ≤ 12 then (if vfM R L = true then (if (mtN (vfW R L) R.length).isSome = true then 0 else 8) else 4) else 2) else 2) else 1
def vfV (R : List RdT) (L : List Int) : SpT := if vfC R L = 0 then (mtN (vfW R L) R.length).getD ((0, 0), 0, 0) else ((0, 0), 0, 0)
theorem vfW_get {R : List RdT} {L : List Int} {i : Nat} {nm : List UInt8} {b u : Int} {up : Bool} {a : Int} (h : R[i]? = some (nm, b, u, up)) (h2 : L[i]? = some a) : (vfW R L)[i]? = some (spN b u a) := by
  unfold vfW; rw [List.getElem?_map, zip_get h h2]; rfl
theorem vfW_len {R : List RdT} {L : List Int} {m : Nat} (h1 : R.length = m) (h2 : L.length = m) : (vfW R L).length = m := by simp [vfW, h1, h2]
theorem vfM_no {R : List RdT} {L : List Int} {i : Nat} {nm : List UInt8} {b u : Int} {up : Bool} {a : Int} (h : R[i]? = some (nm, b, u, up)) (h2 : L[i]? = some a) (h3 : ¬ a.tmod u = 0) : vfM R L = false := all_no (zip_get h h2) (decide_eq_false h3)
theorem vfM_yes {R : List RdT} {L : List Int} {m : Nat} (h1 : R.length = m) (h2 : L.length = m) (h : ∀ (j : Nat) (r : RdT), j < m → R[j]? = some r → ∀ a, L[j]? = some a → a.tmod r.2.2.1 = 0) : vfM R L = true := by
  refine all_yes (n := m) (by simp [h1, h2]) fun j x hj hx => ?_
  rw [List.getElem?_zip_eq_some] at hx
  exact decide_eq_true (h j _ hj hx.1 _ hx.2)
theorem sp_lt {b u n : Int} (hu : 1 ≤ u ∧ u ≤ 20) (hb : -50 ≤ b ∧ b ≤ 50) (hn : -1000000 ≤ n ∧ n ≤ 1000000) : spB (spN b u n) = true := by
  have h1 := redOk_small (p := loN b u n) (q := 2) (by unfold loN; omega) (by omega)
  have h2 := redOk_small (p := hiN b u n) (q := 2) (by unfold hiN; omega) (by omega)
  have b1 := red_back (p := loN b u n) (q := 2) (by omega)
  have b2 := red_back (p := hiN b u n) (q := 2) (by omega)
  have q1 := redQ_pos (p := loN b u n) (q := 2) (by omega)
  have q2 := redQ_pos (p := hiN b u n) (q := 2) (by omega)
  have g1 := redG_pos (p := loN b u n) (q := 2) (by omega)
  have g2 := redG_pos (p := hiN b u n) (q := 2) (by omega)
  have hlt : loN b u n ≤ hiN b u n := by unfold loN hiN; omega
  unfold spB
  rw [spOk_iff]
  refine ⟨h1, h2, ?_⟩
  unfold spN
  dsimp only
  apply Int.le_of_mul_le_mul_left (a := redG (loN b u n) 2 * redG (hiN b u n) 2) _ (Int.mul_pos g1 g2)
  have e1 : redG (loN b u n) 2 * redG (hiN b u n) 2 * (redP (loN b u n) 2 * redQ (hiN b u n) 2) = loN b u n * 2 := by
    calc redG (loN b u n) 2 * redG (hiN b u n) 2 * (redP (loN b u n) 2 * redQ (hiN b u n) 2) = (redG (loN b u n) 2 * redP (loN b u n) 2) * (redG (hiN b u n) 2 * redQ (hiN b u n) 2) := by simp only [Int.mul_assoc, Int.mul_left_comm, Int.mul_comm]
      _ = loN b u n * 2 := by rw [← b1.1, ← b2.2]
  have e2 : redG (loN b u n) 2 * redG (hiN b u n) 2 * (redP (hiN b u n) 2 * redQ (loN b u n) 2) = hiN b u n * 2 := by
    calc redG (loN b u n) 2 * redG (hiN b u n) 2 * (redP (hiN b u n) 2 * redQ (loN b u n) 2) = (redG (hiN b u n) 2 * redP (hiN b u n) 2) * (redG (loN b u n) 2 * redQ (loN b u n) 2) := by simp only [Int.mul_assoc, Int.mul_left_comm, Int.mul_comm]
      _ = hiN b u n * 2 := by rw [← b2.1, ← b1.2]
  rw [e1, e2]; omega
end Go.Proofs.Ytpnlbacfofdibaa.Eng
