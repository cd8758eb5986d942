/- bench4: lemmas for the proof, no conditions of their own. -/
import Derived.Test.YtbmejhabgoimeaaXspans
import Derived.Test.YtbmejhabgoimeaaXhabit
import Derived.Test.YtbmejhabgoimeaaXtot
set_option linter.unusedVariables false
set_option linter.unusedSimpArgs false
namespace Go.Proofs.Ytbmejhabgoimeaa.Eng
open Go Go.RowKit
set_option maxRecDepth 100000
/-- All elements with their places. -/
def allI {α : Type} (d : α) (f : Nat → α → Bool) (E : List α) : Bool := (List.range E.length).all fun k : Nat => f k ((E[k]?).getD d)
theorem allI_yes {α : Type} {d : α} {f : Nat → α → Bool} {E : List α} {n : Nat} (hn : E.length = n) (h : ∀ (k : Nat) a, k < n → E[k]? = some a → f k a = true) : allI d f E = true := by
  unfold allI
  rw [List.all_eq_true]
  intro k hk
  rw [List.mem_range] at hk
  obtain ⟨a, ha⟩ : ∃ a, E[k]? = some a := ⟨E[k], by simp [hk]⟩
  rw [ha]; exact h k a (by omega) ha
theorem allI_no {α : Type} {d : α} {f : Nat → α → Bool} {E : List α} {k : Nat} {a : α} (ha : E[k]? = some a) (h : f k a = false) : allI d f E = false := by
  unfold allI
  rw [List.all_eq_false]
  have := (List.getElem?_eq_some_iff.1 ha).1
  exact ⟨k, List.mem_range.2 this, by rw [ha]; simp [h]⟩
theorem allI_at {α : Type} {d : α} {f : Nat → α → Bool} {E : List α} (h : allI d f E = true) {k : Nat} {a : α} (ha : E[k]? = some a) : f k a = true := by
  unfold allI at h
  rw [List.all_eq_true] at h
  have := h k (List.mem_range.2 (List.getElem?_eq_some_iff.1 ha).1)
  rwa [ha] at this
theorem allI_iff {α : Type} {d : α} {f : Nat → α → Bool} {E : List α} : allI d f E = true ↔ ∀ (k : Nat) a, E[k]? = some a → f k a = true :=
  ⟨fun h k a ha => allI_at h ha, fun h => allI_yes rfl fun k a _ ha => h k a ha⟩
theorem allI_snoc {α : Type} {d : α} {f : Nat → α → Bool} {L : List α} {i : Nat} {a : α} (ha : L[i]? = some a) : allI d f (L.take (i + 1)) = (allI d f (L.take i) && f i a) := by
  rw [Bool.eq_iff_iff, Bool.and_eq_true, allI_iff, allI_iff]
  constructor
  · intro h
    refine ⟨fun k b hb => h k b ?_, h i a (by rw [List.getElem?_take, if_pos (by omega)]; exact ha)⟩
    rw [List.getElem?_take] at hb ⊢
    split at hb
    · rw [if_pos (by omega)]; exact hb
    · simp at hb
  · rintro ⟨h1, h2⟩ k b hb
    rw [List.getElem?_take] at hb
    split at hb
    · by_cases e : k = i
      · subst e; rw [ha] at hb; obtain rfl := Option.some.inj hb; exact h2
      · exact h1 k b (by rw [List.getElem?_take, if_pos (by omega)]; exact hb)
    · simp at hb
theorem smF_1k : smF 1 1000 := by unfold smF; omega
def gwB (p q : Int) : Bool := fOk p q && decide (0 ≤ p) && decide (1000 * p ≤ q)
def s_gw : Spec := fun args S => match args, S with
  | [.agg [.int .i64 p, .int .i64 q]], [] => ⟨True, .bool (gwB p q), []⟩
  | _, _ => noSpec
theorem ok_isGrowth : SpecOk Try.prog 113 s_gw := by
  intro args S h; unfold s_gw at h ⊢; (split at h <;> first | exact False.elim h | skip)
  dsimp only at h ⊢
  rename_i p q
  have hc := cmpF_le (p := p) (q := q) (p' := 1) (q' := 1000)
  refine funW tabOk (E := [(37, s_fOk), (38, s_cmp)]) ⟨ok_ValidFrac, ok_compare, trivial⟩ [] (k := 0) (fn := Try.f113) rfl rfl rfl rfl rfl rfl ?_
  (repeat' ((try (conv => whnf)); first | (with_reducible first | refine And.intro ?_ ?_ | refine WX.of ?_ | exact VC.mk rfl | exact True.intro | exact VC.mk ⟨rfl, fun e => e⟩ | exact VC.mk ⟨fun e => e, rfl⟩ | exact VC.mk (Nat.le_refl _) | exact drawOk_i (by decide +kernel) (by decide +kernel) (by decide +kernel)) | ((with_reducible refine VC.mk ?_); first | (dsimp only; done) | omega | (congr 1; (try simp (disch := omega) only [w64]); omega) | exact ⟨rfl, rfl⟩ | (refine ⟨?_, ?_, ?_⟩; assumption; assumption; omega) | (refine ⟨Nat.le_trans (Nat.mul_le_mul_left _ (m := 1000) ?_) ?_, ?_⟩; decide; omega; omega)) | ((with_reducible refine VC.mk ?_); (exact ⟨smF_ok ‹_›, smF_1k⟩)) | with_reducible refine splitT ?_ | with_reducible refine splitF ?_ | ((with_reducible refine splitB.mk (fun h => ?_) (fun h => ?_)) <;> (try simp only [decide_eq_true_eq, decide_eq_false_iff_not, ne_eq, Decidable.not_not, Int.not_lt, Int.not_le, Bool.not_eq_true', Bool.not_eq_false'] at h) <;> (try simp (disch := omega) only [w64] at h) <;> (try (exfalso; first | omega | exact h True.intro | (simp only [and_self, not_true_eq_false] at h; done) | (simp only [beq_self_eq_true, Bool.true_eq_false, reduceCtorEq] at h; done)))) | (with_reducible intro hz; (try exact absurd hz (Nat.succ_ne_zero _)))))
  all_goals (refine ⟨congrArg SV.bool ?_⟩; unfold gwB; first | (simp_all; done) | (rw [Bool.eq_iff_iff]; simp_all; omega))
theorem ok_l07Grows : SpecOk Try.prog 75 s_gw := by
  intro args S h; unfold s_gw at h ⊢; (split at h <;> first | exact False.elim h | skip)
  dsimp only at h ⊢
  rename_i p q
  have hf : fOk p q = true → smF p q := smF_ok
  unfold smF at hf
  refine funW tabOk (E := [(79, s_fOk)]) ⟨ok_l01Ok, trivial⟩ [] (k := 0) (fn := Try.f75) rfl rfl rfl rfl rfl rfl ?_
  (repeat' ((try (conv => whnf)); first | (with_reducible first | refine And.intro ?_ ?_ | refine WX.of ?_ | exact VC.mk rfl | exact True.intro | exact VC.mk ⟨rfl, fun e => e⟩ | exact VC.mk ⟨fun e => e, rfl⟩ | exact VC.mk (Nat.le_refl _) | exact drawOk_i (by decide +kernel) (by decide +kernel) (by decide +kernel)) | ((with_reducible refine VC.mk ?_); first | (dsimp only; done) | omega | (congr 1; (try simp (disch := omega) only [w64]); omega) | exact ⟨rfl, rfl⟩ | (refine ⟨?_, ?_, ?_⟩; assumption; assumption; omega) | (refine ⟨Nat.le_trans (Nat.mul_le_mul_left _ (m := 1000) ?_) ?_, ?_⟩; decide; omega; omega)) | with_reducible refine splitT ?_ | with_reducible refine splitF ?_ | ((with_reducible refine splitB.mk (fun h => ?_) (fun h => ?_)) <;> (try simp only [decide_eq_true_eq, decide_eq_false_iff_not, ne_eq, Decidable.not_not, Int.not_lt, Int.not_le, Bool.not_eq_true', Bool.not_eq_false'] at h) <;> (try simp (disch := omega) only [w64] at h) <;> (try (exfalso; first | omega | exact h True.intro | (simp only [and_self, not_true_eq_false] at h; done) | (simp only [beq_self_eq_true, Bool.true_eq_false, reduceCtorEq] at h; done)))) | (with_reducible intro hz; (try exact absurd hz (Nat.succ_ne_zero _)))))
  all_goals (refine ⟨congrArg SV.bool ?_⟩; unfold gwB; first | (simp_all; done) | (have hf := hf (by assumption); (try simp (disch := omega) only [w64]); rw [Bool.eq_iff_iff]; simp_all; try omega))
def wiB (p q m : Int) : Bool := fOk p q && decide (0 < p) && decide (p ≤ m * q)
def s_wi : Spec := fun args S => match args, S with
  | [.agg [.int .i64 p, .int .i64 q], .int .i64 m], [] => ⟨-1000000000 ≤ m ∧ m ≤ 1000000000, .bool (wiB p q m), []⟩
  | _, _ => noSpec
theorem ok_l02Within : SpecOk Try.prog 77 s_wi := by
  intro args S h; unfold s_wi at h ⊢; (split at h <;> first | exact False.elim h | skip)
  dsimp only at h ⊢
  rename_i p q m
  have hc := cmpF_le (p := p) (q := q) (p' := m) (q' := 1)
  refine funW tabOk (E := [(79, s_fOk), (46, s_num), (105, s_cmp)]) ⟨ok_l01Ok, ok_l01Whole, ok_l01Cmp, trivial⟩ [(1, [(8, 2)])] (k := 0) (fn := Try.f77) rfl rfl rfl rfl rfl rfl ?_
  (repeat' ((try (conv => whnf)); first | (with_reducible first | refine And.intro ?_ ?_ | refine WX.of ?_ | exact VC.mk rfl | exact True.intro | exact VC.mk ⟨rfl, fun e => e⟩ | exact VC.mk ⟨fun e => e, rfl⟩ | exact VC.mk (Nat.le_refl _) | exact drawOk_i (by decide +kernel) (by decide +kernel) (by decide +kernel)) | ((with_reducible refine VC.mk ?_); first | (dsimp only; done) | omega | (congr 1; (try simp (disch := omega) only [w64]); omega) | exact ⟨rfl, rfl⟩ | (refine ⟨?_, ?_, ?_⟩; assumption; assumption; omega) | (refine ⟨Nat.le_trans (Nat.mul_le_mul_left _ (m := 1000) ?_) ?_, ?_⟩; decide; omega; omega)) | with_reducible refine splitT ?_ | with_reducible refine splitF ?_ | ((with_reducible refine splitB.mk (fun h => ?_) (fun h => ?_)) <;> (try simp only [decide_eq_true_eq, decide_eq_false_iff_not, ne_eq, Decidable.not_not, Int.not_lt, Int.not_le, Bool.not_eq_true', Bool.not_eq_false'] at h) <;> (try simp (disch := omega) only [w64] at h) <;> (try (exfalso; first | omega | exact h True.intro | (simp only [and_self, not_true_eq_false] at h; done) | (simp only [beq_self_eq_true, Bool.true_eq_false, reduceCtorEq] at h; done)))) | (with_reducible intro hz; (try exact absurd hz (Nat.succ_ne_zero _)))))
  · exact ⟨⟨smF_ok (by assumption), smF_1 (by omega)⟩⟩
  · refine ⟨congrArg SV.bool ?_⟩
    simp only [hc]; simp_all [wiB]
  · refine ⟨congrArg SV.bool ?_⟩
    simp [wiB, show ¬ 0 < p by omega]
  · refine ⟨congrArg SV.bool ?_⟩
    simp [wiB, h]
def s_isUnit : Spec := fun args S => match args, S with
  | [.agg [.int .i64 p, .int .i64 q]], [] => ⟨smF p q, .bool (decide (0 < p) && decide (p ≤ 1000 * q)), []⟩
  | _, _ => noSpec
theorem ok_isUnit : SpecOk Try.prog 91 s_isUnit := by
  intro args S h; unfold s_isUnit at h ⊢; (split at h <;> first | exact False.elim h | skip)
  dsimp only at h ⊢
  rename_i p q
  have hc := cmpF_le (p := p) (q := q) (p' := 1000) (q' := 1)
  refine funW tabOk (E := [(26, s_num), (38, s_cmp)]) ⟨ok_num, ok_compare, trivial⟩ [(1, [(4, 1)])] (k := 0) (fn := Try.f91) rfl rfl rfl rfl rfl rfl ?_
  (repeat' ((try (conv => whnf)); first | (with_reducible first | refine And.intro ?_ ?_ | refine WX.of ?_ | exact VC.mk rfl | exact True.intro | exact VC.mk ⟨rfl, fun e => e⟩ | exact VC.mk ⟨fun e => e, rfl⟩ | exact VC.mk (Nat.le_refl _) | exact drawOk_i (by decide +kernel) (by decide +kernel) (by decide +kernel)) | ((with_reducible refine VC.mk ?_); first | (dsimp only; done) | omega | (congr 1; (try simp (disch := omega) only [w64]); omega) | exact ⟨rfl, rfl⟩ | (refine ⟨?_, ?_, ?_⟩; assumption; assumption; omega) | (refine ⟨Nat.le_trans (Nat.mul_le_mul_left _ (m := 1000) ?_) ?_, ?_⟩; decide; omega; omega)) | with_reducible refine splitT ?_ | with_reducible refine splitF ?_ | ((with_reducible refine splitB.mk (fun h => ?_) (fun h => ?_)) <;> (try simp only [decide_eq_true_eq, decide_eq_false_iff_not, ne_eq, Decidable.not_not, Int.not_lt, Int.not_le, Bool.not_eq_true', Bool.not_eq_false'] at h) <;> (try simp (disch := omega) only [w64] at h) <;> (try (exfalso; first | omega | exact h True.intro | (simp only [and_self, not_true_eq_false] at h; done) | (simp only [beq_self_eq_true, Bool.true_eq_false, reduceCtorEq] at h; done)))) | (with_reducible intro hz; (try exact absurd hz (Nat.succ_ne_zero _)))))
  · exact ⟨⟨by assumption, smF_1 (by omega)⟩⟩
  · refine ⟨congrArg SV.bool ?_⟩
    simp only [hc]; simp_all
  · refine ⟨congrArg SV.bool ?_⟩
    simp [show ¬ 0 < p by omega]
def s_size : Spec := fun args S => match args, S with
  | [.agg [.int .i64 p, .int .i64 q]], [] => ⟨smF p q, .agg [.int .i64 (p.natAbs : Int), .int .i64 q], []⟩
  | _, _ => noSpec
theorem ok_size : SpecOk Try.prog 57 s_size := by
  intro args S h; unfold s_size at h ⊢; (split at h <;> first | exact False.elim h | skip)
  dsimp only at h ⊢
  rename_i p q
  unfold smF at h
  refine funW tabOk (E := []) trivial [] (k := 0) (fn := Try.f57) rfl rfl rfl rfl rfl rfl ?_
  (repeat' ((try (conv => whnf)); first | (with_reducible first | refine And.intro ?_ ?_ | refine WX.of ?_ | exact VC.mk rfl | exact True.intro | exact VC.mk ⟨rfl, fun e => e⟩ | exact VC.mk ⟨fun e => e, rfl⟩ | exact VC.mk (Nat.le_refl _) | exact drawOk_i (by decide +kernel) (by decide +kernel) (by decide +kernel)) | ((with_reducible refine VC.mk ?_); first | (dsimp only; done) | omega | (congr 1; (try simp (disch := omega) only [w64]); omega) | exact ⟨rfl, rfl⟩ | (refine ⟨?_, ?_, ?_⟩; assumption; assumption; omega) | (refine ⟨Nat.le_trans (Nat.mul_le_mul_left _ (m := 1000) ?_) ?_, ?_⟩; decide; omega; omega)) | with_reducible refine splitT ?_ | with_reducible refine splitF ?_ | ((with_reducible refine splitB.mk (fun h => ?_) (fun h => ?_)) <;> (try simp only [decide_eq_true_eq, decide_eq_false_iff_not, ne_eq, Decidable.not_not, Int.not_lt, Int.not_le, Bool.not_eq_true', Bool.not_eq_false'] at h) <;> (try simp (disch := omega) only [w64] at h) <;> (try (exfalso; first | omega | exact h True.intro | (simp only [and_self, not_true_eq_false] at h; done) | (simp only [beq_self_eq_true, Bool.true_eq_false, reduceCtorEq] at h; done)))) | (with_reducible intro hz; (try exact absurd hz (Nat.succ_ne_zero _)))))
  refine ⟨?_⟩
  dsimp only
  rw [w64 (by omega)]
  have e : (if 0 - p > p then 0 - p else p) = (p.natAbs : Int) := by split <;> omega
  rw [e]
theorem ok_l07Name : SpecOk Try.prog 76 s_word := by
  intro args S h; unfold s_word at h ⊢; (split at h <;> first | exact False.elim h | skip)
  dsimp only at h ⊢
  rename_i s
  refine funW tabOk (E := []) trivial [] (k := 0) (fn := Try.f76) rfl rfl rfl rfl rfl rfl ?_
  (repeat' ((try (conv => whnf)); first | (with_reducible first | refine And.intro ?_ ?_ | refine WX.of ?_ | exact VC.mk rfl | exact True.intro | exact VC.mk ⟨rfl, fun e => e⟩ | exact VC.mk ⟨fun e => e, rfl⟩ | exact VC.mk (Nat.le_refl _) | exact drawOk_i (by decide +kernel) (by decide +kernel) (by decide +kernel)) | ((with_reducible refine VC.mk ?_); first | (dsimp only; done) | omega | (congr 1; (try simp (disch := omega) only [w64]); omega) | exact ⟨rfl, rfl⟩ | (refine ⟨?_, ?_, ?_⟩; assumption; assumption; omega) | (refine ⟨Nat.le_trans (Nat.mul_le_mul_left _ (m := 1000) ?_) ?_, ?_⟩; decide; omega; omega)) | with_reducible refine splitT ?_ | with_reducible refine splitF ?_ | ((with_reducible refine splitB.mk (fun h => ?_) (fun h => ?_)) <;> (try simp only [decide_eq_true_eq, decide_eq_false_iff_not, ne_eq, Decidable.not_not, Int.not_lt, Int.not_le, Bool.not_eq_true', Bool.not_eq_false'] at h) <;> (try simp (disch := omega) only [w64] at h) <;> (try (exfalso; first | omega | exact h True.intro | (simp only [and_self, not_true_eq_false] at h; done) | (simp only [beq_self_eq_true, Bool.true_eq_false, reduceCtorEq] at h; done)))) | (with_reducible intro hz; (try exact absurd hz (Nat.succ_ne_zero _)))))
  refine loopW tabOk (E := []) trivial [] (σ := Nat) (fun i => [(0, .str s), (3, .int .i64 i)]) (fun i => []) (fun i => s.length - i) (fun i => i ≤ s.length ∧ ∀ (j : Nat) c, j < i → s[j]? = some c → letB c = true) 0 ⟨Nat.zero_le _, fun j a hj => by omega⟩ ?_ ?_
  · (repeat' ((try (conv => whnf)); first | (with_reducible first | refine And.intro ?_ ?_ | refine WX.of ?_ | exact VC.mk rfl | exact True.intro | exact VC.mk ⟨rfl, fun e => e⟩ | exact VC.mk ⟨fun e => e, rfl⟩ | exact VC.mk (Nat.le_refl _) | exact drawOk_i (by decide +kernel) (by decide +kernel) (by decide +kernel)) | ((with_reducible refine VC.mk ?_); first | (dsimp only; done) | omega | (congr 1; (try simp (disch := omega) only [w64]); omega) | exact ⟨rfl, rfl⟩ | (refine ⟨?_, ?_, ?_⟩; assumption; assumption; omega) | (refine ⟨Nat.le_trans (Nat.mul_le_mul_left _ (m := 1000) ?_) ?_, ?_⟩; decide; omega; omega)) | with_reducible refine splitT ?_ | with_reducible refine splitF ?_ | ((with_reducible refine splitB.mk (fun h => ?_) (fun h => ?_)) <;> (try simp only [decide_eq_true_eq, decide_eq_false_iff_not, ne_eq, Decidable.not_not, Int.not_lt, Int.not_le, Bool.not_eq_true', Bool.not_eq_false'] at h) <;> (try simp (disch := omega) only [w64] at h) <;> (try (exfalso; first | omega | exact h True.intro | (simp only [and_self, not_true_eq_false] at h; done) | (simp only [beq_self_eq_true, Bool.true_eq_false, reduceCtorEq] at h; done)))) | (with_reducible intro hz; (try exact absurd hz (Nat.succ_ne_zero _)))))
  · intro i ⟨hi, hp⟩
    by_cases hlt : i < s.length
    · obtain ⟨c, hc⟩ := get_some (l := s) (i := i) (by omega)
      (repeat' ((try (conv => whnf)); first | (with_reducible first | refine And.intro ?_ ?_ | refine WX.of ?_ | exact VC.mk rfl | exact True.intro | exact VC.mk ⟨rfl, fun e => e⟩ | exact VC.mk ⟨fun e => e, rfl⟩ | exact VC.mk (Nat.le_refl _) | exact drawOk_i (by decide +kernel) (by decide +kernel) (by decide +kernel)) | ((with_reducible refine VC.mk ?_); first | (dsimp only; done) | omega | (congr 1; (try simp (disch := omega) only [w64]); omega) | exact ⟨rfl, rfl⟩ | (refine ⟨?_, ?_, ?_⟩; assumption; assumption; omega) | (refine ⟨Nat.le_trans (Nat.mul_le_mul_left _ (m := 1000) ?_) ?_, ?_⟩; decide; omega; omega)) | refine atL_n hc ?_ | with_reducible refine splitT ?_ | with_reducible refine splitF ?_ | ((with_reducible refine splitB.mk (fun h => ?_) (fun h => ?_)) <;> (try simp only [decide_eq_true_eq, decide_eq_false_iff_not, ne_eq, Decidable.not_not, Int.not_lt, Int.not_le, Bool.not_eq_true', Bool.not_eq_false'] at h) <;> (try simp (disch := omega) only [w64] at h) <;> (try (exfalso; first | omega | exact h True.intro | (simp only [and_self, not_true_eq_false] at h; done) | (simp only [beq_self_eq_true, Bool.true_eq_false, reduceCtorEq] at h; done)))) | (with_reducible intro hz; (try exact absurd hz (Nat.succ_ne_zero _)))))
      · exact ⟨by rw [word_no hc (by unfold letB; rw [decide_eq_false]; omega)]⟩
      · exact ⟨by rw [word_no hc (by unfold letB; rw [decide_eq_false]; omega)]⟩
      · refine ⟨i + 1, by omega, ⟨hlt, upto_step hc (by unfold letB; rw [decide_eq_true]; omega) hp⟩, ?_⟩
        (repeat' ((try (conv => whnf)); first | (with_reducible first | refine And.intro ?_ ?_ | refine WX.of ?_ | exact VC.mk rfl | exact True.intro | exact VC.mk ⟨rfl, fun e => e⟩ | exact VC.mk ⟨fun e => e, rfl⟩ | exact VC.mk (Nat.le_refl _) | exact drawOk_i (by decide +kernel) (by decide +kernel) (by decide +kernel)) | ((with_reducible refine VC.mk ?_); first | (dsimp only; done) | omega | (congr 1; (try simp (disch := omega) only [w64]); omega) | exact ⟨rfl, rfl⟩ | (refine ⟨?_, ?_, ?_⟩; assumption; assumption; omega) | (refine ⟨Nat.le_trans (Nat.mul_le_mul_left _ (m := 1000) ?_) ?_, ?_⟩; decide; omega; omega)) | with_reducible refine splitT ?_ | with_reducible refine splitF ?_ | ((with_reducible refine splitB.mk (fun h => ?_) (fun h => ?_)) <;> (try simp only [decide_eq_true_eq, decide_eq_false_iff_not, ne_eq, Decidable.not_not, Int.not_lt, Int.not_le, Bool.not_eq_true', Bool.not_eq_false'] at h) <;> (try simp (disch := omega) only [w64] at h) <;> (try (exfalso; first | omega | exact h True.intro | (simp only [and_self, not_true_eq_false] at h; done) | (simp only [beq_self_eq_true, Bool.true_eq_false, reduceCtorEq] at h; done)))) | (with_reducible intro hz; (try exact absurd hz (Nat.succ_ne_zero _)))))
    · (repeat' ((try (conv => whnf)); first | (with_reducible first | refine And.intro ?_ ?_ | refine WX.of ?_ | exact VC.mk rfl | exact True.intro | exact VC.mk ⟨rfl, fun e => e⟩ | exact VC.mk ⟨fun e => e, rfl⟩ | exact VC.mk (Nat.le_refl _) | exact drawOk_i (by decide +kernel) (by decide +kernel) (by decide +kernel)) | ((with_reducible refine VC.mk ?_); first | (dsimp only; done) | omega | (congr 1; (try simp (disch := omega) only [w64]); omega) | exact ⟨rfl, rfl⟩ | (refine ⟨?_, ?_, ?_⟩; assumption; assumption; omega) | (refine ⟨Nat.le_trans (Nat.mul_le_mul_left _ (m := 1000) ?_) ?_, ?_⟩; decide; omega; omega)) | with_reducible refine splitT ?_ | with_reducible refine splitF ?_ | ((with_reducible refine splitB.mk (fun h => ?_) (fun h => ?_)) <;> (try simp only [decide_eq_true_eq, decide_eq_false_iff_not, ne_eq, Decidable.not_not, Int.not_lt, Int.not_le, Bool.not_eq_true', Bool.not_eq_false'] at h) <;> (try simp (disch := omega) only [w64] at h) <;> (try (exfalso; first | omega | exact h True.intro | (simp only [and_self, not_true_eq_false] at h; done) | (simp only [beq_self_eq_true, Bool.true_eq_false, reduceCtorEq] at h; done)))) | (with_reducible intro hz; (try exact absurd hz (Nat.succ_ne_zero _)))))
      · have ha := word_all fun j c hj => hp j c (by have := (List.getElem?_eq_some_iff.1 hj).1; omega) hj
        have hl : 1 ≤ s.length := by cases s with | nil => exact absurd rfl h | cons a r => simp
        refine ⟨congrArg SV.bool ?_⟩
        unfold wordB; rw [ha, Bool.and_true, decide_eq_decide]; omega
      · subst h; exact ⟨congrArg SV.bool (by simp [wordB])⟩
def s_ver : Spec := fun args S => match args, S with
  | [.agg [.int .i64 p, .bool b]], [] => ⟨True, .bool (decide (2 ≤ p ∧ p ≤ 40)), []⟩
  | _, _ => noSpec
theorem ok_ValidVernier : SpecOk Try.prog 114 s_ver := by
  intro args S h; unfold s_ver at h ⊢; (split at h <;> first | exact False.elim h | skip)
  dsimp only at h ⊢
  refine funW tabOk (E := [(71, s_within)]) ⟨ok_within, trivial⟩ [] (k := 0) (fn := Try.f114) rfl rfl rfl rfl rfl rfl ?_
  (repeat' ((try (conv => whnf)); first | (with_reducible first | refine And.intro ?_ ?_ | refine WX.of ?_ | exact VC.mk rfl | exact True.intro | exact VC.mk ⟨rfl, fun e => e⟩ | exact VC.mk ⟨fun e => e, rfl⟩ | exact VC.mk (Nat.le_refl _) | exact drawOk_i (by decide +kernel) (by decide +kernel) (by decide +kernel)) | ((with_reducible refine VC.mk ?_); first | (dsimp only; done) | omega | (congr 1; (try simp (disch := omega) only [w64]); omega) | exact ⟨rfl, rfl⟩ | (refine ⟨?_, ?_, ?_⟩; assumption; assumption; omega) | (refine ⟨Nat.le_trans (Nat.mul_le_mul_left _ (m := 1000) ?_) ?_, ?_⟩; decide; omega; omega)) | with_reducible refine splitT ?_ | with_reducible refine splitF ?_ | ((with_reducible refine splitB.mk (fun h => ?_) (fun h => ?_)) <;> (try simp only [decide_eq_true_eq, decide_eq_false_iff_not, ne_eq, Decidable.not_not, Int.not_lt, Int.not_le, Bool.not_eq_true', Bool.not_eq_false'] at h) <;> (try simp (disch := omega) only [w64] at h) <;> (try (exfalso; first | omega | exact h True.intro | (simp only [and_self, not_true_eq_false] at h; done) | (simp only [beq_self_eq_true, Bool.true_eq_false, reduceCtorEq] at h; done)))) | (with_reducible intro hz; (try exact absurd hz (Nat.succ_ne_zero _)))))
/-- A valid scale. -/
def mkOk (up uq : Int) (k : Nat) (e : Int × Int) : Bool := redOk (k * up) (1 * uq) && redOk (tolP (k * up) (1 * uq) * e.2 + e.1 * tolQ (k * up) (1 * uq)) (tolQ (k * up) (1 * uq) * e.2)
def elB (up uq : Int) (k : Nat) (e : Int × Int) : Bool := fOk e.1 e.2 && decide (4 * (e.1.natAbs : Int) * uq ≤ up * e.2) && mkOk up uq k e
def scB (up uq : Int) (E : List (Int × Int)) : Bool := fOk up uq && (decide (0 < up) && decide (up ≤ 1000 * uq)) && decide (2 ≤ E.length ∧ E.length ≤ 60) && allI (0, 0) (elB up uq) E
theorem fallF_at {L : List (Int × Int)} {k : Nat} {a : Int × Int} (h : allF L = true) (ha : L[k]? = some a) : fOk a.1 a.2 = true := List.all_eq_true.1 h a (List.mem_of_getElem? ha)
theorem sc_no {up uq : Int} {E : List (Int × Int)} {k : Nat} {a : Int × Int} (ha : E[k]? = some a) (h : elB up uq k a = false) : scB up uq E = false := by
  unfold scB; rw [allI_no ha h, Bool.and_false]
theorem sc_yes {up uq : Int} {E : List (Int × Int)} {n : Nat} (hn : E.length = n) (h1 : fOk up uq = true) (h2 : 0 < up ∧ up ≤ 1000 * uq) (h3 : 2 ≤ n ∧ n ≤ 60) (h : ∀ (k : Nat) a, k < n → E[k]? = some a → elB up uq k a = true) : scB up uq E = true := by
  unfold scB; rw [allI_yes hn h, h1, decide_eq_true h2.1, decide_eq_true h2.2, decide_eq_true (by omega)]; rfl
theorem quad {up uq p q : Int} (h1 : smF up uq) (h2 : smF p q) : (-4000000000000000000 ≤ 4 * (p.natAbs : Int) * uq ∧ 4 * (p.natAbs : Int) * uq ≤ 4000000000000000000) ∧ -1000000000000000000 ≤ up * q ∧ up * q ≤ 1000000000000000000 := by
  unfold smF at h1 h2
  have e1 := mulB (a := (p.natAbs : Int)) (b := uq) (by omega) (by omega)
  have e2 := mulB (a := up) (b := q) (by omega) (by omega)
  rw [Int.mul_assoc]
  omega
def s_vScale : Spec := fun args S => match args, S with
  | [.agg [.int .i64 up, .int .i64 uq, .sl 0 s n x]], [.arr (.prod (.int .i64) (.int .i64)) l 2 wr] => ⟨s + n ≤ l.length ∧ n ≤ 1048576, .bool (scB up uq (seg l s n)), [.arr (.prod (.int .i64) (.int .i64)) l 2 wr]⟩
  | _, _ => noSpec
theorem ok_ValidScale : SpecOk Try.prog 56 s_vScale := by
  intro args S h; unfold s_vScale at h ⊢; (split at h <;> first | exact False.elim h | skip)
  dsimp only at h ⊢
  rename_i up uq s n x l wr
  have hL := seg_len h.1
  refine funW tabOk (E := [(37, s_fOk), (91, s_isUnit), (71, s_within), (70, s_allF), (57, s_size), (26, s_num), (54, s_mul), (53, s_add)]) ⟨ok_ValidFrac, ok_isUnit, ok_within, ok_areValid, ok_size, ok_num, ok_mul, ok_add, trivial⟩ [(7, [(6, 0), (10, 0), (12, 0)]), (9, [(5, 0), (7, 0), (7, 1)])] (k := 1) (fn := Try.f56) rfl rfl rfl rfl rfl rfl ?_
  (repeat' ((try (conv => whnf)); first | (with_reducible first | refine And.intro ?_ ?_ | refine WX.of ?_ | exact VC.mk rfl | exact True.intro | exact VC.mk ⟨rfl, fun e => e⟩ | exact VC.mk ⟨fun e => e, rfl⟩ | exact VC.mk (Nat.le_refl _) | exact drawOk_i (by decide +kernel) (by decide +kernel) (by decide +kernel)) | ((with_reducible refine VC.mk ?_); first | (dsimp only; done) | omega | (congr 1; (try simp (disch := omega) only [w64]); omega) | exact ⟨rfl, rfl⟩ | (refine ⟨?_, ?_, ?_⟩; assumption; assumption; omega) | (refine ⟨Nat.le_trans (Nat.mul_le_mul_left _ (m := 1000) ?_) ?_, ?_⟩; decide; omega; omega)) | ((with_reducible refine VC.mk ?_); (exact smF_ok ‹_›)) | with_reducible refine splitT ?_ | with_reducible refine splitF ?_ | ((with_reducible refine splitB.mk (fun h => ?_) (fun h => ?_)) <;> (try simp only [decide_eq_true_eq, decide_eq_false_iff_not, ne_eq, Decidable.not_not, Int.not_lt, Int.not_le, Bool.not_eq_true', Bool.not_eq_false'] at h) <;> (try simp (disch := omega) only [w64] at h) <;> (try (exfalso; first | omega | exact h True.intro | (simp only [and_self, not_true_eq_false] at h; done) | (simp only [beq_self_eq_true, Bool.true_eq_false, reduceCtorEq] at h; done)))) | (with_reducible intro hz; (try exact absurd hz (Nat.succ_ne_zero _)))))
  · exact ⟨congrArg SV.bool (by simp [scB, h])⟩
  · exact ⟨congrArg SV.bool (by simp only [scB, h, Bool.and_false, Bool.false_and])⟩
  · exact ⟨congrArg SV.bool (by unfold scB; rw [hL, show decide (2 ≤ n ∧ n ≤ 60) = false from decide_eq_false (by omega), Bool.and_false, Bool.false_and])⟩
  · refine ⟨congrArg SV.bool ?_⟩
    unfold allF at h
    rw [List.all_eq_false] at h
    obtain ⟨a, ha, hb⟩ := h
    obtain ⟨j, hj⟩ := List.getElem?_of_mem ha
    rw [sc_no hj (by unfold elB; simp at hb; simp [hb])]
  · rename_i hU hu hn
    have hV := h
    have hsU := smF_ok hU
    have hu2 : 0 < up ∧ up ≤ 1000 * uq := by simpa using hu
    refine loopW tabOk (E := [(37, s_fOk), (91, s_isUnit), (71, s_within), (70, s_allF), (57, s_size), (26, s_num), (54, s_mul), (53, s_add)]) ⟨ok_ValidFrac, ok_isUnit, ok_within, ok_areValid, ok_size, ok_num, ok_mul, ok_add, trivial⟩ [(7, [(6, 0), (10, 0), (12, 0)]), (9, [(5, 0), (7, 0), (7, 1)])] (σ := Nat) (fun i => [(1, .ptr 1 0 0), (3, .ptr 2 0 0), (32, .sl 0 s n x), (33, .int .i64 n), (34, .int .i64 i)]) (fun i => [.arr (.prod (.int .i64) (.int .i64)) l 2 wr, .box [.int .i64 up, .int .i64 uq, .sl 0 s n x] true false, .arr .bool [!allI (0, 0) (mkOk up uq) ((seg l s n).take i)] 0 true]) (fun i => n - i) (fun i => i ≤ n ∧ ∀ (j : Nat) (a : Int × Int), j < i → (seg l s n)[j]? = some a → (fOk a.1 a.2 && decide (4 * (a.1.natAbs : Int) * uq ≤ up * a.2)) = true) 0 ⟨Nat.zero_le _, fun j a hj => by omega⟩ ?_ ?_
    · (repeat' ((try (conv => whnf)); first | (with_reducible first | refine And.intro ?_ ?_ | refine WX.of ?_ | exact VC.mk rfl | exact True.intro | exact VC.mk ⟨rfl, fun e => e⟩ | exact VC.mk ⟨fun e => e, rfl⟩ | exact VC.mk (Nat.le_refl _) | exact drawOk_i (by decide +kernel) (by decide +kernel) (by decide +kernel)) | ((with_reducible refine VC.mk ?_); first | (dsimp only; done) | omega | (congr 1; (try simp (disch := omega) only [w64]); omega) | exact ⟨rfl, rfl⟩ | (refine ⟨?_, ?_, ?_⟩; assumption; assumption; omega) | (refine ⟨Nat.le_trans (Nat.mul_le_mul_left _ (m := 1000) ?_) ?_, ?_⟩; decide; omega; omega)) | with_reducible refine splitT ?_ | with_reducible refine splitF ?_ | ((with_reducible refine splitB.mk (fun h => ?_) (fun h => ?_)) <;> (try simp only [decide_eq_true_eq, decide_eq_false_iff_not, ne_eq, Decidable.not_not, Int.not_lt, Int.not_le, Bool.not_eq_true', Bool.not_eq_false'] at h) <;> (try simp (disch := omega) only [w64] at h) <;> (try (exfalso; first | omega | exact h True.intro | (simp only [and_self, not_true_eq_false] at h; done) | (simp only [beq_self_eq_true, Bool.true_eq_false, reduceCtorEq] at h; done)))) | (with_reducible intro hz; (try exact absurd hz (Nat.succ_ne_zero _)))))
    · intro i ⟨hi, hp⟩
      by_cases hlt : i < n
      · obtain ⟨⟨p, q⟩, ha⟩ := get_some (l := seg l s n) (i := i) (by omega)
        have hf : fOk p q = true := fallF_at hV ha
        have hsf := smF_ok hf
        have hsb := hsf
        unfold smF at hsb
        have hq4 := quad hsU hsf
        have hk : smF (i : Int) 1 := smF_1 (by omega)
        have ht := smF_tol ((i : Int) * up) (1 * uq)
        (repeat' ((try (conv => whnf)); first | (with_reducible first | refine And.intro ?_ ?_ | refine WX.of ?_ | exact VC.mk rfl | exact True.intro | exact VC.mk ⟨rfl, fun e => e⟩ | exact VC.mk ⟨fun e => e, rfl⟩ | exact VC.mk (Nat.le_refl _) | exact drawOk_i (by decide +kernel) (by decide +kernel) (by decide +kernel)) | ((with_reducible refine VC.mk ?_); first | (dsimp only; done) | omega | (congr 1; (try simp (disch := omega) only [w64]); omega) | exact ⟨rfl, rfl⟩ | (refine ⟨?_, ?_, ?_⟩; assumption; assumption; omega) | (refine ⟨Nat.le_trans (Nat.mul_le_mul_left _ (m := 1000) ?_) ?_, ?_⟩; decide; omega; omega)) | with_reducible refine atL_i ha ?_ | ((with_reducible refine VC.mk ?_); exact hsf) | ((with_reducible refine VC.mk ?_); exact ⟨rfl, hk, hsU⟩) | ((with_reducible refine VC.mk ?_); exact ⟨rfl, ht, hsf⟩) | with_reducible refine splitT ?_ | with_reducible refine splitF ?_ | ((with_reducible refine splitB.mk (fun h => ?_) (fun h => ?_)) <;> (try simp only [decide_eq_true_eq, decide_eq_false_iff_not, ne_eq, Decidable.not_not, Int.not_lt, Int.not_le, Bool.not_eq_true', Bool.not_eq_false'] at h) <;> (try simp (disch := omega) only [w64] at h) <;> (try (exfalso; first | omega | exact h True.intro | (simp only [and_self, not_true_eq_false] at h; done) | (simp only [beq_self_eq_true, Bool.true_eq_false, reduceCtorEq] at h; done)))) | (with_reducible intro hz; (try exact absurd hz (Nat.succ_ne_zero _)))))
        · have hd : decide (4 * (p.natAbs : Int) * uq ≤ up * q) = false := decide_eq_false (by omega)
          exact ⟨congrArg SV.bool (by rw [sc_no ha (by unfold elB; dsimp only; rw [hd, Bool.and_false, Bool.false_and])])⟩
        · have hd : decide (4 * (p.natAbs : Int) * uq ≤ up * q) = true := decide_eq_true (by omega)
          refine ⟨i + 1, by omega, ⟨hlt, upto_step ha (by dsimp only; rw [hf, hd]; rfl) hp⟩, ?_⟩
          (repeat' ((try (conv => whnf)); first | (with_reducible first | refine And.intro ?_ ?_ | refine WX.of ?_ | exact VC.mk rfl | exact True.intro | exact VC.mk ⟨rfl, fun e => e⟩ | exact VC.mk ⟨fun e => e, rfl⟩ | exact VC.mk (Nat.le_refl _) | exact drawOk_i (by decide +kernel) (by decide +kernel) (by decide +kernel)) | ((with_reducible refine VC.mk ?_); first | (dsimp only; done) | omega | (congr 1; (try simp (disch := omega) only [w64]); omega) | exact ⟨rfl, rfl⟩ | (refine ⟨?_, ?_, ?_⟩; assumption; assumption; omega) | (refine ⟨Nat.le_trans (Nat.mul_le_mul_left _ (m := 1000) ?_) ?_, ?_⟩; decide; omega; omega)) | with_reducible refine splitT ?_ | with_reducible refine splitF ?_ | ((with_reducible refine splitB.mk (fun h => ?_) (fun h => ?_)) <;> (try simp only [decide_eq_true_eq, decide_eq_false_iff_not, ne_eq, Decidable.not_not, Int.not_lt, Int.not_le, Bool.not_eq_true', Bool.not_eq_false'] at h) <;> (try simp (disch := omega) only [w64] at h) <;> (try (exfalso; first | omega | exact h True.intro | (simp only [and_self, not_true_eq_false] at h; done) | (simp only [beq_self_eq_true, Bool.true_eq_false, reduceCtorEq] at h; done)))) | (with_reducible intro hz; (try exact absurd hz (Nat.succ_ne_zero _)))))
          refine ⟨?_⟩
          rw [allI_snoc ha]
          simp [mkOk, Bool.or_assoc]
      · obtain rfl : i = n := by omega
        rw [List.take_of_length_le (by omega)]
        (repeat' ((try (conv => whnf)); first | (with_reducible first | refine And.intro ?_ ?_ | refine WX.of ?_ | exact VC.mk rfl | exact True.intro | exact VC.mk ⟨rfl, fun e => e⟩ | exact VC.mk ⟨fun e => e, rfl⟩ | exact VC.mk (Nat.le_refl _) | exact drawOk_i (by decide +kernel) (by decide +kernel) (by decide +kernel)) | ((with_reducible refine VC.mk ?_); first | (dsimp only; done) | omega | (congr 1; (try simp (disch := omega) only [w64]); omega) | exact ⟨rfl, rfl⟩ | (refine ⟨?_, ?_, ?_⟩; assumption; assumption; omega) | (refine ⟨Nat.le_trans (Nat.mul_le_mul_left _ (m := 1000) ?_) ?_, ?_⟩; decide; omega; omega)) | with_reducible refine splitT ?_ | with_reducible refine splitF ?_ | ((with_reducible refine splitB.mk (fun h => ?_) (fun h => ?_)) <;> (try simp only [decide_eq_true_eq, decide_eq_false_iff_not, ne_eq, Decidable.not_not, Int.not_lt, Int.not_le, Bool.not_eq_true', Bool.not_eq_false'] at h) <;> (try simp (disch := omega) only [w64] at h) <;> (try (exfalso; first | omega | exact h True.intro | (simp only [and_self, not_true_eq_false] at h; done) | (simp only [beq_self_eq_true, Bool.true_eq_false, reduceCtorEq] at h; done)))) | (with_reducible intro hz; (try exact absurd hz (Nat.succ_ne_zero _)))))
        refine ⟨congrArg SV.bool ?_⟩
        rw [Bool.not_not]
        cases hm : allI (0, 0) (mkOk up uq) (seg l s i) with
        | true => exact (sc_yes hL hU hu2 (by omega) (fun k a hk ha => by unfold elB; rw [hp k a hk ha, allI_at hm ha]; rfl)).symm
        | false =>
          cases hs : scB up uq (seg l s i) with
          | false => rfl
          | true =>
            unfold scB at hs
            rw [Bool.and_eq_true] at hs
            have : allI (0, 0) (mkOk up uq) (seg l s i) = true := allI_iff.2 fun k a ha => by
              have := allI_at hs.2 ha
              unfold elB at this
              rw [Bool.and_eq_true] at this
              exact this.2
            rw [this] at hm; simp at hm
end Go.Proofs.Ytbmejhabgoimeaa.Eng
