/- everyv: lemmas for the proof, no conditions of their own. -/
import Derived.Test.YtpnlbacfofdibaaXvfrom2
set_option linter.unusedVariables false
set_option linter.unusedSimpArgs false
namespace Go.Proofs.Ytpnlbacfofdibaa.Eng
open Go Go.RowKit
set_option maxRecDepth 100000
/-- A number lies in a span. -/
def inP (s : SpT) (p q : Int) : Prop := s.1.1 * q ≤ p * s.1.2 ∧ p * s.2.2 ≤ s.2.1 * q
theorem in_meet {a b : SpT} {p q : Int} (h1 : inP a p q) (h2 : inP b p q) : inP (mtS a b) p q := by
  unfold inP mtS moF leF at *
  dsimp only at *
  refine ⟨?_, ?_⟩
  · split
    · exact h1.1
    · exact h2.1
  · split
    · exact h1.2
    · exact h2.2
theorem in_mtN {W : List SpT} {p q : Int} (hW : ∀ a ∈ W, inP a p q) : ∀ {i : Nat} {s : SpT}, mtN W i = some s → inP s p q
  | 0, s, h => hW s (List.mem_of_getElem? h)
  | i + 1, s, h => by
    rw [mtN] at h
    split at h
    · rename_i s' a h1 h2
      split at h
      · obtain rfl := Option.some.inj h
        exact in_meet (in_mtN hW h1) (hW a (List.mem_of_getElem? h2))
      · simp at h
    · simp at h
/-- What is read of a value: the value lies in its span. -/
theorem rd_in {b u p q : Int} {up : Bool} (hu : 1 ≤ u) (hq : 1 ≤ q) : loN b u (rdN b u up p q) * q ≤ 2 * p ∧ 2 * p ≤ hiN b u (rdN b u up p q) * q := by
  have hY : 0 < u * q := Int.mul_pos (by omega) (by omega)
  unfold rdN loN hiN
  generalize hX : 2 * (p + b * q) = X
  generalize hYe : u * q = Y at hY
  have e2 : 2 * p = X - 2 * (b * q) := by rw [← hX, Int.mul_add]; omega
  rw [e2]
  split
  · have h1 := Int.mul_ediv_add_emod (X + Y) (2 * Y)
    have h2 := Int.emod_nonneg (X + Y) (show 2 * Y ≠ 0 by omega)
    have h3 := Int.emod_lt_of_pos (X + Y) (show 0 < 2 * Y by omega)
    generalize (X + Y) / (2 * Y) = k at *
    generalize (X + Y) % (2 * Y) = r at *
    have e : (2 * (u * k - b) - u) * q = 2 * (Y * k) - 2 * (b * q) - Y := by
      rw [← hYe]; simp only [Int.sub_mul, Int.mul_sub, Int.mul_assoc]; rw [Int.mul_comm k q]
    have e' : (2 * (u * k - b) + u) * q = 2 * (Y * k) - 2 * (b * q) + Y := by
      rw [← hYe]; simp only [Int.sub_mul, Int.add_mul, Int.mul_sub, Int.mul_assoc]; rw [Int.mul_comm k q]
    rw [e, e']
    rw [Int.mul_assoc] at h1
    omega
  · have h1 := Int.mul_ediv_add_emod (Y - X) (2 * Y)
    have h2 := Int.emod_nonneg (Y - X) (show 2 * Y ≠ 0 by omega)
    have h3 := Int.emod_lt_of_pos (Y - X) (show 0 < 2 * Y by omega)
    generalize (Y - X) / (2 * Y) = k at *
    generalize (Y - X) % (2 * Y) = r at *
    have e : (2 * (-u * k - b) - u) * q = -(2 * (Y * k)) - 2 * (b * q) - Y := by
      rw [← hYe]; simp only [Int.sub_mul, Int.mul_sub, Int.neg_mul, Int.mul_neg, Int.mul_assoc]; rw [Int.mul_comm k q]
    have e' : (2 * (-u * k - b) + u) * q = -(2 * (Y * k)) - 2 * (b * q) + Y := by
      rw [← hYe]; simp only [Int.sub_mul, Int.add_mul, Int.mul_sub, Int.neg_mul, Int.mul_neg, Int.mul_assoc]; rw [Int.mul_comm k q]
    rw [e, e']
    rw [Int.mul_assoc] at h1
    omega
theorem sp_in {b u p q : Int} {up : Bool} (hu : 1 ≤ u) (hq : 1 ≤ q) : inP (spN b u (rdN b u up p q)) p q := by
  have h := rd_in (b := b) (p := p) (up := up) hu hq
  generalize rdN b u up p q = n at *
  have b1 := red_back (p := loN b u n) (q := 2) (by omega)
  have b2 := red_back (p := hiN b u n) (q := 2) (by omega)
  have g1 := redG_pos (p := loN b u n) (q := 2) (by omega)
  have g2 := redG_pos (p := hiN b u n) (q := 2) (by omega)
  unfold inP spN
  dsimp only
  refine ⟨?_, ?_⟩
  · apply Int.le_of_mul_le_mul_left (a := redG (loN b u n) 2) _ g1
    rw [← Int.mul_assoc, ← b1.1, Int.mul_left_comm, ← b1.2]; omega
  · apply Int.le_of_mul_le_mul_left (a := redG (hiN b u n) 2) _ g2
    rw [← Int.mul_assoc (redG (hiN b u n) 2) (redP (hiN b u n) 2), ← b2.1, Int.mul_left_comm, ← b2.2]; omega
def s_InSpan : Spec := fun args S => match args, S with
  | [.agg [.int .i64 p, .int .i64 q, .int .i64 p', .int .i64 q'], .agg [.int .i64 r, .int .i64 s]], [] => ⟨True, .tup [.bool (spOk p q p' q' && fOk r s && decide (p * s ≤ r * q) && decide (r * q' ≤ p' * s)), .int .i64 (if (spOk p q p' q' && fOk r s) = true then 0 else 1)], []⟩
  | _, _ => noSpec
theorem ok_InSpan : SpecOk Try.prog 50 s_InSpan := by
  intro args S h; unfold s_InSpan at h ⊢; (split at h <;> first | exact False.elim h | skip)
  dsimp only at h ⊢
  rename_i p q p' q' r s
  have hc1 := cmpF_le (p := p) (q := q) (p' := r) (q' := s)
  have hc2 := cmpF_le (p := r) (q := s) (p' := p') (q' := q')
  have h1 : spOk p q p' q' = true → smF p q ∧ smF p' q' := fun h => ⟨smF_ok (spOk_iff.1 h).1, smF_ok (spOk_iff.1 h).2.1⟩
  refine funW tabOk (E := [(91, s_vSpan), (92, s_fOk), (93, s_cmp)]) ⟨ok_ValidSpan, ok_ValidFrac, ok_compare, trivial⟩ [] (k := 0) (fn := Try.f50) rfl rfl rfl rfl rfl rfl ?_
  (repeat' ((try (conv => whnf)); first | (with_reducible first | refine And.intro ?_ ?_ | refine WX.of ?_ | exact VC.mk rfl | exact True.intro | exact VC.mk ⟨rfl, fun e => e⟩ | exact VC.mk ⟨fun e => e, rfl⟩ | exact VC.mk (Nat.le_refl _) | exact drawOk_i (by decide +kernel) (by decide +kernel) (by decide +kernel)) | ((with_reducible refine VC.mk ?_); first | (dsimp only; done) | omega | (congr 1; (try simp (disch := omega) only [w64]); omega) | exact ⟨rfl, rfl⟩ | (refine ⟨?_, ?_, ?_⟩; assumption; assumption; omega) | (refine ⟨Nat.le_trans (Nat.mul_le_mul_left _ (m := 1000) ?_) ?_, ?_⟩; decide; omega; omega)) | with_reducible refine splitT ?_ | with_reducible refine splitF ?_ | ((with_reducible refine splitB.mk (fun h => ?_) (fun h => ?_)) <;> (try simp only [decide_eq_true_eq, decide_eq_false_iff_not, ne_eq, Decidable.not_not, Int.not_lt, Int.not_le, Bool.not_eq_true', Bool.not_eq_false'] at h) <;> (try simp (disch := omega) only [w64] at h) <;> (try (exfalso; first | omega | exact h True.intro | (simp only [and_self, not_true_eq_false] at h; done) | (simp only [beq_self_eq_true, Bool.true_eq_false, reduceCtorEq] at h; done)))) | (with_reducible intro hz; (try exact absurd hz (Nat.succ_ne_zero _)))))
  · exact ⟨by simp [h]⟩
  · exact ⟨by simp [h]⟩
  · rename_i hs
    exact ⟨⟨(h1 hs).1, smF_ok h⟩⟩
  · rename_i hs hf
    exact ⟨⟨smF_ok hf, (h1 hs).2⟩⟩
  · rename_i hs hf
    exact ⟨by simp only [hs, hf, hc2, show decide (p * s ≤ r * q) = true from decide_eq_true (hc1.1 h), Bool.and_self, Bool.true_and, if_true]⟩
  · rename_i hs hf
    exact ⟨by simp only [hs, hf, show decide (p * s ≤ r * q) = false from decide_eq_false (fun z => by have := hc1.2 z; omega), Bool.and_self, Bool.and_false, Bool.false_and, if_true]⟩
def s_idx0 (g : Nat) : Spec := fun args S => match args, S with
  | [.nils, .fn g' []], [] => ⟨g' = g, .int .i64 (-1), []⟩
  | [.sl 0 0 0 0, .fn g' []], [.gone] => ⟨g' = g, .int .i64 (-1), [.gone]⟩
  | _, _ => noSpec
theorem ok_idx0 : SpecOk Try.prog 128 (s_idx0 115) := by
  intro args S h; unfold s_idx0 at h ⊢; (split at h <;> first | exact False.elim h | skip)
  dsimp only at h ⊢
  · subst h
    refine funW tabOk (E := [(115, s_nvR)]) ⟨ok_areReaders1, trivial⟩ [] (k := 0) (fn := Try.f128) rfl rfl rfl rfl rfl rfl ?_
    (repeat' ((try (conv => whnf)); first | (with_reducible first | refine And.intro ?_ ?_ | refine WX.of ?_ | exact VC.mk rfl | exact True.intro | exact VC.mk ⟨rfl, fun e => e⟩ | exact VC.mk ⟨fun e => e, rfl⟩ | exact VC.mk (Nat.le_refl _) | exact drawOk_i (by decide +kernel) (by decide +kernel) (by decide +kernel)) | ((with_reducible refine VC.mk ?_); first | (dsimp only; done) | omega | (congr 1; (try simp (disch := omega) only [w64]); omega) | exact ⟨rfl, rfl⟩ | (refine ⟨?_, ?_, ?_⟩; assumption; assumption; omega) | (refine ⟨Nat.le_trans (Nat.mul_le_mul_left _ (m := 1000) ?_) ?_, ?_⟩; decide; omega; omega)) | with_reducible refine splitT ?_ | with_reducible refine splitF ?_ | ((with_reducible refine splitB.mk (fun h => ?_) (fun h => ?_)) <;> (try simp only [decide_eq_true_eq, decide_eq_false_iff_not, ne_eq, Decidable.not_not, Int.not_lt, Int.not_le, Bool.not_eq_true', Bool.not_eq_false'] at h) <;> (try simp (disch := omega) only [w64] at h) <;> (try (exfalso; first | omega | exact h True.intro | (simp only [and_self, not_true_eq_false] at h; done) | (simp only [beq_self_eq_true, Bool.true_eq_false, reduceCtorEq] at h; done)))) | (with_reducible intro hz; (try exact absurd hz (Nat.succ_ne_zero _)))))
    refine loop1 tabOk (E := [(115, s_nvR)]) ⟨ok_areReaders1, trivial⟩ [] ?_
    (repeat' ((try (conv => whnf)); first | (with_reducible first | refine And.intro ?_ ?_ | refine WX.of ?_ | exact VC.mk rfl | exact True.intro | exact VC.mk ⟨rfl, fun e => e⟩ | exact VC.mk ⟨fun e => e, rfl⟩ | exact VC.mk (Nat.le_refl _) | exact drawOk_i (by decide +kernel) (by decide +kernel) (by decide +kernel)) | ((with_reducible refine VC.mk ?_); first | (dsimp only; done) | omega | (congr 1; (try simp (disch := omega) only [w64]); omega) | exact ⟨rfl, rfl⟩ | (refine ⟨?_, ?_, ?_⟩; assumption; assumption; omega) | (refine ⟨Nat.le_trans (Nat.mul_le_mul_left _ (m := 1000) ?_) ?_, ?_⟩; decide; omega; omega)) | with_reducible refine splitT ?_ | with_reducible refine splitF ?_ | ((with_reducible refine splitB.mk (fun h => ?_) (fun h => ?_)) <;> (try simp only [decide_eq_true_eq, decide_eq_false_iff_not, ne_eq, Decidable.not_not, Int.not_lt, Int.not_le, Bool.not_eq_true', Bool.not_eq_false'] at h) <;> (try simp (disch := omega) only [w64] at h) <;> (try (exfalso; first | omega | exact h True.intro | (simp only [and_self, not_true_eq_false] at h; done) | (simp only [beq_self_eq_true, Bool.true_eq_false, reduceCtorEq] at h; done)))) | (with_reducible intro hz; (try exact absurd hz (Nat.succ_ne_zero _)))))
  · subst h
    refine funW tabOk (E := [(115, s_nvR)]) ⟨ok_areReaders1, trivial⟩ [] (k := 1) (fn := Try.f128) rfl rfl rfl rfl rfl rfl ?_
    (repeat' ((try (conv => whnf)); first | (with_reducible first | refine And.intro ?_ ?_ | refine WX.of ?_ | exact VC.mk rfl | exact True.intro | exact VC.mk ⟨rfl, fun e => e⟩ | exact VC.mk ⟨fun e => e, rfl⟩ | exact VC.mk (Nat.le_refl _) | exact drawOk_i (by decide +kernel) (by decide +kernel) (by decide +kernel)) | ((with_reducible refine VC.mk ?_); first | (dsimp only; done) | omega | (congr 1; (try simp (disch := omega) only [w64]); omega) | exact ⟨rfl, rfl⟩ | (refine ⟨?_, ?_, ?_⟩; assumption; assumption; omega) | (refine ⟨Nat.le_trans (Nat.mul_le_mul_left _ (m := 1000) ?_) ?_, ?_⟩; decide; omega; omega)) | with_reducible refine splitT ?_ | with_reducible refine splitF ?_ | ((with_reducible refine splitB.mk (fun h => ?_) (fun h => ?_)) <;> (try simp only [decide_eq_true_eq, decide_eq_false_iff_not, ne_eq, Decidable.not_not, Int.not_lt, Int.not_le, Bool.not_eq_true', Bool.not_eq_false'] at h) <;> (try simp (disch := omega) only [w64] at h) <;> (try (exfalso; first | omega | exact h True.intro | (simp only [and_self, not_true_eq_false] at h; done) | (simp only [beq_self_eq_true, Bool.true_eq_false, reduceCtorEq] at h; done)))) | (with_reducible intro hz; (try exact absurd hz (Nat.succ_ne_zero _)))))
    refine loop1 tabOk (E := [(115, s_nvR)]) ⟨ok_areReaders1, trivial⟩ [] ?_
    (repeat' ((try (conv => whnf)); first | (with_reducible first | refine And.intro ?_ ?_ | refine WX.of ?_ | exact VC.mk rfl | exact True.intro | exact VC.mk ⟨rfl, fun e => e⟩ | exact VC.mk ⟨fun e => e, rfl⟩ | exact VC.mk (Nat.le_refl _) | exact drawOk_i (by decide +kernel) (by decide +kernel) (by decide +kernel)) | ((with_reducible refine VC.mk ?_); first | (dsimp only; done) | omega | (congr 1; (try simp (disch := omega) only [w64]); omega) | exact ⟨rfl, rfl⟩ | (refine ⟨?_, ?_, ?_⟩; assumption; assumption; omega) | (refine ⟨Nat.le_trans (Nat.mul_le_mul_left _ (m := 1000) ?_) ?_, ?_⟩; decide; omega; omega)) | with_reducible refine splitT ?_ | with_reducible refine splitF ?_ | ((with_reducible refine splitB.mk (fun h => ?_) (fun h => ?_)) <;> (try simp only [decide_eq_true_eq, decide_eq_false_iff_not, ne_eq, Decidable.not_not, Int.not_lt, Int.not_le, Bool.not_eq_true', Bool.not_eq_false'] at h) <;> (try simp (disch := omega) only [w64] at h) <;> (try (exfalso; first | omega | exact h True.intro | (simp only [and_self, not_true_eq_false] at h; done) | (simp only [beq_self_eq_true, Bool.true_eq_false, reduceCtorEq] at h; done)))) | (with_reducible intro hz; (try exact absurd hz (Nat.succ_ne_zero _)))))
def s_any0 (g : Nat) : Spec := fun args S => match args, S with
  | [.nils, .fn g' []], [] => ⟨g' = g, .bool false, []⟩
  | [.sl 0 0 0 0, .fn g' []], [.gone] => ⟨g' = g, .bool false, [.gone]⟩
  | _, _ => noSpec
theorem ok_any0 : SpecOk Try.prog 114 (s_any0 115) := by
  intro args S h; unfold s_any0 at h ⊢; (split at h <;> first | exact False.elim h | skip)
  dsimp only at h ⊢
  · subst h
    refine funW tabOk (E := [(128, (s_idx0 115))]) ⟨ok_idx0, trivial⟩ [] (k := 0) (fn := Try.f114) rfl rfl rfl rfl rfl rfl ?_
    (repeat' ((try (conv => whnf)); first | (with_reducible first | refine And.intro ?_ ?_ | refine WX.of ?_ | exact VC.mk rfl | exact True.intro | exact VC.mk ⟨rfl, fun e => e⟩ | exact VC.mk ⟨fun e => e, rfl⟩ | exact VC.mk (Nat.le_refl _) | exact drawOk_i (by decide +kernel) (by decide +kernel) (by decide +kernel)) | ((with_reducible refine VC.mk ?_); first | (dsimp only; done) | omega | (congr 1; (try simp (disch := omega) only [w64]); omega) | exact ⟨rfl, rfl⟩ | (refine ⟨?_, ?_, ?_⟩; assumption; assumption; omega) | (refine ⟨Nat.le_trans (Nat.mul_le_mul_left _ (m := 1000) ?_) ?_, ?_⟩; decide; omega; omega)) | with_reducible refine splitT ?_ | with_reducible refine splitF ?_ | ((with_reducible refine splitB.mk (fun h => ?_) (fun h => ?_)) <;> (try simp only [decide_eq_true_eq, decide_eq_false_iff_not, ne_eq, Decidable.not_not, Int.not_lt, Int.not_le, Bool.not_eq_true', Bool.not_eq_false'] at h) <;> (try simp (disch := omega) only [w64] at h) <;> (try (exfalso; first | omega | exact h True.intro | (simp only [and_self, not_true_eq_false] at h; done) | (simp only [beq_self_eq_true, Bool.true_eq_false, reduceCtorEq] at h; done)))) | (with_reducible intro hz; (try exact absurd hz (Nat.succ_ne_zero _)))))
  · subst h
    refine funW tabOk (E := [(128, (s_idx0 115))]) ⟨ok_idx0, trivial⟩ [] (k := 1) (fn := Try.f114) rfl rfl rfl rfl rfl rfl ?_
    (repeat' ((try (conv => whnf)); first | (with_reducible first | refine And.intro ?_ ?_ | refine WX.of ?_ | exact VC.mk rfl | exact True.intro | exact VC.mk ⟨rfl, fun e => e⟩ | exact VC.mk ⟨fun e => e, rfl⟩ | exact VC.mk (Nat.le_refl _) | exact drawOk_i (by decide +kernel) (by decide +kernel) (by decide +kernel)) | ((with_reducible refine VC.mk ?_); first | (dsimp only; done) | omega | (congr 1; (try simp (disch := omega) only [w64]); omega) | exact ⟨rfl, rfl⟩ | (refine ⟨?_, ?_, ?_⟩; assumption; assumption; omega) | (refine ⟨Nat.le_trans (Nat.mul_le_mul_left _ (m := 1000) ?_) ?_, ?_⟩; decide; omega; omega)) | with_reducible refine splitT ?_ | with_reducible refine splitF ?_ | ((with_reducible refine splitB.mk (fun h => ?_) (fun h => ?_)) <;> (try simp only [decide_eq_true_eq, decide_eq_false_iff_not, ne_eq, Decidable.not_not, Int.not_lt, Int.not_le, Bool.not_eq_true', Bool.not_eq_false'] at h) <;> (try simp (disch := omega) only [w64] at h) <;> (try (exfalso; first | omega | exact h True.intro | (simp only [and_self, not_true_eq_false] at h; done) | (simp only [beq_self_eq_true, Bool.true_eq_false, reduceCtorEq] at h; done)))) | (with_reducible intro hz; (try exact absurd hz (Nat.succ_ne_zero _)))))
def s_allR0 : Spec := fun args S => match args, S with
  | [.nils], [] => ⟨True, .bool true, []⟩
  | [.sl 0 0 0 0], [.gone] => ⟨True, .bool true, [.gone]⟩
  | _, _ => noSpec
theorem ok_areReaders0 : SpecOk Try.prog 82 s_allR0 := by
  intro args S h; unfold s_allR0 at h ⊢; (split at h <;> first | exact False.elim h | skip)
  dsimp only at h ⊢
  · refine funW tabOk (E := [(114, (s_any0 115))]) ⟨ok_any0, trivial⟩ [] (k := 0) (fn := Try.f82) rfl rfl rfl rfl rfl rfl ?_
    (repeat' ((try (conv => whnf)); first | (with_reducible first | refine And.intro ?_ ?_ | refine WX.of ?_ | exact VC.mk rfl | exact True.intro | exact VC.mk ⟨rfl, fun e => e⟩ | exact VC.mk ⟨fun e => e, rfl⟩ | exact VC.mk (Nat.le_refl _) | exact drawOk_i (by decide +kernel) (by decide +kernel) (by decide +kernel)) | ((with_reducible refine VC.mk ?_); first | (dsimp only; done) | omega | (congr 1; (try simp (disch := omega) only [w64]); omega) | exact ⟨rfl, rfl⟩ | (refine ⟨?_, ?_, ?_⟩; assumption; assumption; omega) | (refine ⟨Nat.le_trans (Nat.mul_le_mul_left _ (m := 1000) ?_) ?_, ?_⟩; decide; omega; omega)) | with_reducible refine splitT ?_ | with_reducible refine splitF ?_ | ((with_reducible refine splitB.mk (fun h => ?_) (fun h => ?_)) <;> (try simp only [decide_eq_true_eq, decide_eq_false_iff_not, ne_eq, Decidable.not_not, Int.not_lt, Int.not_le, Bool.not_eq_true', Bool.not_eq_false'] at h) <;> (try simp (disch := omega) only [w64] at h) <;> (try (exfalso; first | omega | exact h True.intro | (simp only [and_self, not_true_eq_false] at h; done) | (simp only [beq_self_eq_true, Bool.true_eq_false, reduceCtorEq] at h; done)))) | (with_reducible intro hz; (try exact absurd hz (Nat.succ_ne_zero _)))))
  · refine funW tabOk (E := [(114, (s_any0 115))]) ⟨ok_any0, trivial⟩ [] (k := 1) (fn := Try.f82) rfl rfl rfl rfl rfl rfl ?_
    (repeat' ((try (conv => whnf)); first | (with_reducible first | refine And.intro ?_ ?_ | refine WX.of ?_ | exact VC.mk rfl | exact True.intro | exact VC.mk ⟨rfl, fun e => e⟩ | exact VC.mk ⟨fun e => e, rfl⟩ | exact VC.mk (Nat.le_refl _) | exact drawOk_i (by decide +kernel) (by decide +kernel) (by decide +kernel)) | ((with_reducible refine VC.mk ?_); first | (dsimp only; done) | omega | (congr 1; (try simp (disch := omega) only [w64]); omega) | exact ⟨rfl, rfl⟩ | (refine ⟨?_, ?_, ?_⟩; assumption; assumption; omega) | (refine ⟨Nat.le_trans (Nat.mul_le_mul_left _ (m := 1000) ?_) ?_, ?_⟩; decide; omega; omega)) | with_reducible refine splitT ?_ | with_reducible refine splitF ?_ | ((with_reducible refine splitB.mk (fun h => ?_) (fun h => ?_)) <;> (try simp only [decide_eq_true_eq, decide_eq_false_iff_not, ne_eq, Decidable.not_not, Int.not_lt, Int.not_le, Bool.not_eq_true', Bool.not_eq_false'] at h) <;> (try simp (disch := omega) only [w64] at h) <;> (try (exfalso; first | omega | exact h True.intro | (simp only [and_self, not_true_eq_false] at h; done) | (simp only [beq_self_eq_true, Bool.true_eq_false, reduceCtorEq] at h; done)))) | (with_reducible intro hz; (try exact absurd hz (Nat.succ_ne_zero _)))))
theorem ok_l06Valid0 : SpecOk Try.prog 80 s_allR0 := by
  intro args S h; unfold s_allR0 at h ⊢; (split at h <;> first | exact False.elim h | skip)
  dsimp only at h ⊢
  · refine funW tabOk (E := [(53, s_l06Ok)]) ⟨ok_l06Ok, trivial⟩ [] (k := 0) (fn := Try.f80) rfl rfl rfl rfl rfl rfl ?_
    (repeat' ((try (conv => whnf)); first | (with_reducible first | refine And.intro ?_ ?_ | refine WX.of ?_ | exact VC.mk rfl | exact True.intro | exact VC.mk ⟨rfl, fun e => e⟩ | exact VC.mk ⟨fun e => e, rfl⟩ | exact VC.mk (Nat.le_refl _) | exact drawOk_i (by decide +kernel) (by decide +kernel) (by decide +kernel)) | ((with_reducible refine VC.mk ?_); first | (dsimp only; done) | omega | (congr 1; (try simp (disch := omega) only [w64]); omega) | exact ⟨rfl, rfl⟩ | (refine ⟨?_, ?_, ?_⟩; assumption; assumption; omega) | (refine ⟨Nat.le_trans (Nat.mul_le_mul_left _ (m := 1000) ?_) ?_, ?_⟩; decide; omega; omega)) | with_reducible refine splitT ?_ | with_reducible refine splitF ?_ | ((with_reducible refine splitB.mk (fun h => ?_) (fun h => ?_)) <;> (try simp only [decide_eq_true_eq, decide_eq_false_iff_not, ne_eq, Decidable.not_not, Int.not_lt, Int.not_le, Bool.not_eq_true', Bool.not_eq_false'] at h) <;> (try simp (disch := omega) only [w64] at h) <;> (try (exfalso; first | omega | exact h True.intro | (simp only [and_self, not_true_eq_false] at h; done) | (simp only [beq_self_eq_true, Bool.true_eq_false, reduceCtorEq] at h; done)))) | (with_reducible intro hz; (try exact absurd hz (Nat.succ_ne_zero _)))))
    refine loop1 tabOk (E := [(53, s_l06Ok)]) ⟨ok_l06Ok, trivial⟩ [] ?_
    (repeat' ((try (conv => whnf)); first | (with_reducible first | refine And.intro ?_ ?_ | refine WX.of ?_ | exact VC.mk rfl | exact True.intro | exact VC.mk ⟨rfl, fun e => e⟩ | exact VC.mk ⟨fun e => e, rfl⟩ | exact VC.mk (Nat.le_refl _) | exact drawOk_i (by decide +kernel) (by decide +kernel) (by decide +kernel)) | ((with_reducible refine VC.mk ?_); first | (dsimp only; done) | omega | (congr 1; (try simp (disch := omega) only [w64]); omega) | exact ⟨rfl, rfl⟩ | (refine ⟨?_, ?_, ?_⟩; assumption; assumption; omega) | (refine ⟨Nat.le_trans (Nat.mul_le_mul_left _ (m := 1000) ?_) ?_, ?_⟩; decide; omega; omega)) | with_reducible refine splitT ?_ | with_reducible refine splitF ?_ | ((with_reducible refine splitB.mk (fun h => ?_) (fun h => ?_)) <;> (try simp only [decide_eq_true_eq, decide_eq_false_iff_not, ne_eq, Decidable.not_not, Int.not_lt, Int.not_le, Bool.not_eq_true', Bool.not_eq_false'] at h) <;> (try simp (disch := omega) only [w64] at h) <;> (try (exfalso; first | omega | exact h True.intro | (simp only [and_self, not_true_eq_false] at h; done) | (simp only [beq_self_eq_true, Bool.true_eq_false, reduceCtorEq] at h; done)))) | (with_reducible intro hz; (try exact absurd hz (Nat.succ_ne_zero _)))))
  · refine funW tabOk (E := [(53, s_l06Ok)]) ⟨ok_l06Ok, trivial⟩ [] (k := 1) (fn := Try.f80) rfl rfl rfl rfl rfl rfl ?_
    (repeat' ((try (conv => whnf)); first | (with_reducible first | refine And.intro ?_ ?_ | refine WX.of ?_ | exact VC.mk rfl | exact True.intro | exact VC.mk ⟨rfl, fun e => e⟩ | exact VC.mk ⟨fun e => e, rfl⟩ | exact VC.mk (Nat.le_refl _) | exact drawOk_i (by decide +kernel) (by decide +kernel) (by decide +kernel)) | ((with_reducible refine VC.mk ?_); first | (dsimp only; done) | omega | (congr 1; (try simp (disch := omega) only [w64]); omega) | exact ⟨rfl, rfl⟩ | (refine ⟨?_, ?_, ?_⟩; assumption; assumption; omega) | (refine ⟨Nat.le_trans (Nat.mul_le_mul_left _ (m := 1000) ?_) ?_, ?_⟩; decide; omega; omega)) | with_reducible refine splitT ?_ | with_reducible refine splitF ?_ | ((with_reducible refine splitB.mk (fun h => ?_) (fun h => ?_)) <;> (try simp only [decide_eq_true_eq, decide_eq_false_iff_not, ne_eq, Decidable.not_not, Int.not_lt, Int.not_le, Bool.not_eq_true', Bool.not_eq_false'] at h) <;> (try simp (disch := omega) only [w64] at h) <;> (try (exfalso; first | omega | exact h True.intro | (simp only [and_self, not_true_eq_false] at h; done) | (simp only [beq_self_eq_true, Bool.true_eq_false, reduceCtorEq] at h; done)))) | (with_reducible intro hz; (try exact absurd hz (Nat.succ_ne_zero _)))))
    refine loop1 tabOk (E := [(53, s_l06Ok)]) ⟨ok_l06Ok, trivial⟩ [] ?_
    (repeat' ((try (conv => whnf)); first | (with_reducible first | refine And.intro ?_ ?_ | refine WX.of ?_ | exact VC.mk rfl | exact True.intro | exact VC.mk ⟨rfl, fun e => e⟩ | exact VC.mk ⟨fun e => e, rfl⟩ | exact VC.mk (Nat.le_refl _) | exact drawOk_i (by decide +kernel) (by decide +kernel) (by decide +kernel)) | ((with_reducible refine VC.mk ?_); first | (dsimp only; done) | omega | (congr 1; (try simp (disch := omega) only [w64]); omega) | exact ⟨rfl, rfl⟩ | (refine ⟨?_, ?_, ?_⟩; assumption; assumption; omega) | (refine ⟨Nat.le_trans (Nat.mul_le_mul_left _ (m := 1000) ?_) ?_, ?_⟩; decide; omega; omega)) | with_reducible refine splitT ?_ | with_reducible refine splitF ?_ | ((with_reducible refine splitB.mk (fun h => ?_) (fun h => ?_)) <;> (try simp only [decide_eq_true_eq, decide_eq_false_iff_not, ne_eq, Decidable.not_not, Int.not_lt, Int.not_le, Bool.not_eq_true', Bool.not_eq_false'] at h) <;> (try simp (disch := omega) only [w64] at h) <;> (try (exfalso; first | omega | exact h True.intro | (simp only [and_self, not_true_eq_false] at h; done) | (simp only [beq_self_eq_true, Bool.true_eq_false, reduceCtorEq] at h; done)))) | (with_reducible intro hz; (try exact absurd hz (Nat.succ_ne_zero _)))))
def s_vf0 : Spec := fun args S => match args, S with
  | [.nils, .sl 0 s 0 x], [.arr (.int .i64) l 1 wr] => ⟨s ≤ l.length, .tup [.agg [.int .i64 0, .int .i64 0, .int .i64 0, .int .i64 0], .int .i64 2], [.arr (.int .i64) l 1 wr]⟩
  | [.sl 0 0 0 0, .sl 1 s 0 x], [.gone, .arr (.int .i64) l 1 wr] => ⟨s ≤ l.length, .tup [.agg [.int .i64 0, .int .i64 0, .int .i64 0, .int .i64 0], .int .i64 2], [.gone, .arr (.int .i64) l 1 wr]⟩
  | _, _ => noSpec
theorem are_0 {l : List Int} {s : Nat} : areB (seg l s 0) = false := are_few (by simp [seg])
theorem ok_ValueFromI0 : SpecOk Try.prog 40 s_vf0 := by
  intro args S h; unfold s_vf0 at h ⊢; (split at h <;> first | exact False.elim h | skip)
  dsimp only at h ⊢
  · refine funW tabOk (E := [(82, s_allR0), (73, s_are), (74, s_corrected), (83, s_mAll)]) ⟨ok_areReaders0, ok_areReadings, ok_corrected, ok_meetAll, trivial⟩ [(9, [(10, 0)])] (k := 1) (fn := Try.f40) rfl rfl rfl rfl rfl rfl ?_
    (repeat' ((try (conv => whnf)); first | (with_reducible first | refine And.intro ?_ ?_ | refine WX.of ?_ | exact VC.mk rfl | exact True.intro | exact VC.mk ⟨rfl, fun e => e⟩ | exact VC.mk ⟨fun e => e, rfl⟩ | exact VC.mk (Nat.le_refl _) | exact drawOk_i (by decide +kernel) (by decide +kernel) (by decide +kernel)) | ((with_reducible refine VC.mk ?_); first | (dsimp only; done) | omega | (congr 1; (try simp (disch := omega) only [w64]); omega) | exact ⟨rfl, rfl⟩ | (refine ⟨?_, ?_, ?_⟩; assumption; assumption; omega) | (refine ⟨Nat.le_trans (Nat.mul_le_mul_left _ (m := 1000) ?_) ?_, ?_⟩; decide; omega; omega)) | ((with_reducible refine splitT_of ?_ ?_); (focus (simp only [are_0, Bool.not_true, Bool.not_false, decide_true, decide_false]; done))) | ((with_reducible refine splitF_of ?_ ?_); (focus (simp only [are_0, Bool.not_true, Bool.not_false, decide_true, decide_false]; done))) | with_reducible refine splitT ?_ | with_reducible refine splitF ?_ | ((with_reducible refine splitB.mk (fun h => ?_) (fun h => ?_)) <;> (try simp only [decide_eq_true_eq, decide_eq_false_iff_not, ne_eq, Decidable.not_not, Int.not_lt, Int.not_le, Bool.not_eq_true', Bool.not_eq_false'] at h) <;> (try simp (disch := omega) only [w64] at h) <;> (try (exfalso; first | omega | exact h True.intro | (simp only [and_self, not_true_eq_false] at h; done) | (simp only [beq_self_eq_true, Bool.true_eq_false, reduceCtorEq] at h; done)))) | (with_reducible intro hz; (try exact absurd hz (Nat.succ_ne_zero _)))))
  · refine funW tabOk (E := [(82, s_allR0), (73, s_are), (74, s_corrected), (83, s_mAll)]) ⟨ok_areReaders0, ok_areReadings, ok_corrected, ok_meetAll, trivial⟩ [(9, [(10, 0)])] (k := 2) (fn := Try.f40) rfl rfl rfl rfl rfl rfl ?_
    (repeat' ((try (conv => whnf)); first | (with_reducible first | refine And.intro ?_ ?_ | refine WX.of ?_ | exact VC.mk rfl | exact True.intro | exact VC.mk ⟨rfl, fun e => e⟩ | exact VC.mk ⟨fun e => e, rfl⟩ | exact VC.mk (Nat.le_refl _) | exact drawOk_i (by decide +kernel) (by decide +kernel) (by decide +kernel)) | ((with_reducible refine VC.mk ?_); first | (dsimp only; done) | omega | (congr 1; (try simp (disch := omega) only [w64]); omega) | exact ⟨rfl, rfl⟩ | (refine ⟨?_, ?_, ?_⟩; assumption; assumption; omega) | (refine ⟨Nat.le_trans (Nat.mul_le_mul_left _ (m := 1000) ?_) ?_, ?_⟩; decide; omega; omega)) | ((with_reducible refine splitT_of ?_ ?_); (focus (simp only [are_0, Bool.not_true, Bool.not_false, decide_true, decide_false]; done))) | ((with_reducible refine splitF_of ?_ ?_); (focus (simp only [are_0, Bool.not_true, Bool.not_false, decide_true, decide_false]; done))) | with_reducible refine splitT ?_ | with_reducible refine splitF ?_ | ((with_reducible refine splitB.mk (fun h => ?_) (fun h => ?_)) <;> (try simp only [decide_eq_true_eq, decide_eq_false_iff_not, ne_eq, Decidable.not_not, Int.not_lt, Int.not_le, Bool.not_eq_true', Bool.not_eq_false'] at h) <;> (try simp (disch := omega) only [w64] at h) <;> (try (exfalso; first | omega | exact h True.intro | (simp only [and_self, not_true_eq_false] at h; done) | (simp only [beq_self_eq_true, Bool.true_eq_false, reduceCtorEq] at h; done)))) | (with_reducible intro hz; (try exact absurd hz (Nat.succ_ne_zero _)))))
theorem arC_0 {l : List Int} {s : Nat} : areCode (seg l s 0) = 2 := by unfold areCode; rw [are_0]; rfl
theorem ok_ValueFromS0 : SpecOk Try.prog 39 s_vf0 := by
  intro args S h; unfold s_vf0 at h ⊢; (split at h <;> first | exact False.elim h | skip)
  dsimp only at h ⊢
  · rename_i s x l wr
    have ha := arC_0 (l := l) (s := s)
    refine funW tabOk (E := [(80, s_allR0), (71, s_l06List), (72, s_l06Span), (81, s_meet)]) ⟨ok_l06Valid0, ok_l06List, ok_l06Span, ok_l01Meet, trivial⟩ [(13, [(6, 0)]), (17, [(0, 1), (13, 0), (13, 1)])] (k := 1) (fn := Try.f39) rfl rfl rfl rfl rfl rfl ?_
    (repeat' ((try (conv => whnf)); first | (with_reducible first | refine And.intro ?_ ?_ | refine WX.of ?_ | exact VC.mk rfl | exact True.intro | exact VC.mk ⟨rfl, fun e => e⟩ | exact VC.mk ⟨fun e => e, rfl⟩ | exact VC.mk (Nat.le_refl _) | exact drawOk_i (by decide +kernel) (by decide +kernel) (by decide +kernel)) | ((with_reducible refine VC.mk ?_); first | (dsimp only; done) | omega | (congr 1; (try simp (disch := omega) only [w64]); omega) | exact ⟨rfl, rfl⟩ | (refine ⟨?_, ?_, ?_⟩; assumption; assumption; omega) | (refine ⟨Nat.le_trans (Nat.mul_le_mul_left _ (m := 1000) ?_) ?_, ?_⟩; decide; omega; omega)) | with_reducible refine splitT ?_ | with_reducible refine splitF ?_ | ((with_reducible refine splitB.mk (fun h => ?_) (fun h => ?_)) <;> (try simp only [decide_eq_true_eq, decide_eq_false_iff_not, ne_eq, Decidable.not_not, Int.not_lt, Int.not_le, Bool.not_eq_true', Bool.not_eq_false'] at h) <;> (try simp (disch := omega) only [w64] at h) <;> (try (exfalso; first | omega | exact h True.intro | (simp only [and_self, not_true_eq_false] at h; done) | (simp only [beq_self_eq_true, Bool.true_eq_false, reduceCtorEq] at h; done)))) | (with_reducible intro hz; (try exact absurd hz (Nat.succ_ne_zero _)))))
    all_goals exact ⟨by rw [ha]⟩
  · rename_i s x l wr
    have ha := arC_0 (l := l) (s := s)
    refine funW tabOk (E := [(80, s_allR0), (71, s_l06List), (72, s_l06Span), (81, s_meet)]) ⟨ok_l06Valid0, ok_l06List, ok_l06Span, ok_l01Meet, trivial⟩ [(13, [(6, 0)]), (17, [(0, 1), (13, 0), (13, 1)])] (k := 2) (fn := Try.f39) rfl rfl rfl rfl rfl rfl ?_
    (repeat' ((try (conv => whnf)); first | (with_reducible first | refine And.intro ?_ ?_ | refine WX.of ?_ | exact VC.mk rfl | exact True.intro | exact VC.mk ⟨rfl, fun e => e⟩ | exact VC.mk ⟨fun e => e, rfl⟩ | exact VC.mk (Nat.le_refl _) | exact drawOk_i (by decide +kernel) (by decide +kernel) (by decide +kernel)) | ((with_reducible refine VC.mk ?_); first | (dsimp only; done) | omega | (congr 1; (try simp (disch := omega) only [w64]); omega) | exact ⟨rfl, rfl⟩ | (refine ⟨?_, ?_, ?_⟩; assumption; assumption; omega) | (refine ⟨Nat.le_trans (Nat.mul_le_mul_left _ (m := 1000) ?_) ?_, ?_⟩; decide; omega; omega)) | with_reducible refine splitT ?_ | with_reducible refine splitF ?_ | ((with_reducible refine splitB.mk (fun h => ?_) (fun h => ?_)) <;> (try simp only [decide_eq_true_eq, decide_eq_false_iff_not, ne_eq, Decidable.not_not, Int.not_lt, Int.not_le, Bool.not_eq_true', Bool.not_eq_false'] at h) <;> (try simp (disch := omega) only [w64] at h) <;> (try (exfalso; first | omega | exact h True.intro | (simp only [and_self, not_true_eq_false] at h; done) | (simp only [beq_self_eq_true, Bool.true_eq_false, reduceCtorEq] at h; done)))) | (with_reducible intro hz; (try exact absurd hz (Nat.succ_ne_zero _)))))
    all_goals exact ⟨by rw [ha]⟩
theorem ev_none {v : SV} {p q : Int} (hv : v = .nils ∨ v = .sl 0 0 0 0) : RunsS Try.prog 11 [.agg [.int .i64 p, .int .i64 q], v] [.gone] (.bool true) [.gone] := by
  rcases hv with rfl | rfl
  all_goals
    refine funW tabOk (E := [(52, s_ReadingOf), (49, s_ReadingOf), (40, s_vf0), (39, s_vf0), (50, s_InSpan)]) ⟨ok_ReadingOfI, ok_ReadingOfS, ok_ValueFromI0, ok_ValueFromS0, ok_InSpan, trivial⟩ [] (k := 1) (fn := Try.f11) rfl rfl rfl rfl rfl rfl ?_
    (repeat' ((try (conv => whnf)); first | (with_reducible first | refine And.intro ?_ ?_ | refine WX.of ?_ | exact VC.mk rfl | exact True.intro | exact VC.mk ⟨rfl, fun e => e⟩ | exact VC.mk ⟨fun e => e, rfl⟩ | exact VC.mk (Nat.le_refl _) | exact drawOk_i (by decide +kernel) (by decide +kernel) (by decide +kernel)) | ((with_reducible refine VC.mk ?_); first | (dsimp only; done) | omega | (congr 1; (try simp (disch := omega) only [w64]); omega) | exact ⟨rfl, rfl⟩ | (refine ⟨?_, ?_, ?_⟩; assumption; assumption; omega) | (refine ⟨Nat.le_trans (Nat.mul_le_mul_left _ (m := 1000) ?_) ?_, ?_⟩; decide; omega; omega)) | with_reducible refine splitT ?_ | with_reducible refine splitF ?_ | ((with_reducible refine splitB.mk (fun h => ?_) (fun h => ?_)) <;> (try simp only [decide_eq_true_eq, decide_eq_false_iff_not, ne_eq, Decidable.not_not, Int.not_lt, Int.not_le, Bool.not_eq_true', Bool.not_eq_false'] at h) <;> (try simp (disch := omega) only [w64] at h) <;> (try (exfalso; first | omega | exact h True.intro | (simp only [and_self, not_true_eq_false] at h; done) | (simp only [beq_self_eq_true, Bool.true_eq_false, reduceCtorEq] at h; done)))) | (with_reducible intro hz; (try exact absurd hz (Nat.succ_ne_zero _)))))
    refine loop1 tabOk (E := [(52, s_ReadingOf), (49, s_ReadingOf), (40, s_vf0), (39, s_vf0), (50, s_InSpan)]) ⟨ok_ReadingOfI, ok_ReadingOfS, ok_ValueFromI0, ok_ValueFromS0, ok_InSpan, trivial⟩ [] ?_
    (repeat' ((try (conv => whnf)); first | (with_reducible first | refine And.intro ?_ ?_ | refine WX.of ?_ | exact VC.mk rfl | exact True.intro | exact VC.mk ⟨rfl, fun e => e⟩ | exact VC.mk ⟨fun e => e, rfl⟩ | exact VC.mk (Nat.le_refl _) | exact drawOk_i (by decide +kernel) (by decide +kernel) (by decide +kernel)) | ((with_reducible refine VC.mk ?_); first | (dsimp only; done) | omega | (congr 1; (try simp (disch := omega) only [w64]); omega) | exact ⟨rfl, rfl⟩ | (refine ⟨?_, ?_, ?_⟩; assumption; assumption; omega) | (refine ⟨Nat.le_trans (Nat.mul_le_mul_left _ (m := 1000) ?_) ?_, ?_⟩; decide; omega; omega)) | with_reducible refine splitT ?_ | with_reducible refine splitF ?_ | ((with_reducible refine splitB.mk (fun h => ?_) (fun h => ?_)) <;> (try simp only [decide_eq_true_eq, decide_eq_false_iff_not, ne_eq, Decidable.not_not, Int.not_lt, Int.not_le, Bool.not_eq_true', Bool.not_eq_false'] at h) <;> (try simp (disch := omega) only [w64] at h) <;> (try (exfalso; first | omega | exact h True.intro | (simp only [and_self, not_true_eq_false] at h; done) | (simp only [beq_self_eq_true, Bool.true_eq_false, reduceCtorEq] at h; done)))) | (with_reducible intro hz; (try exact absurd hz (Nat.succ_ne_zero _)))))
    all_goals (simp at h)
def evLs (R : List RdT) (p q : Int) : List Int := R.map fun r => rdN r.2.1 r.2.2.1 r.2.2.2 p q
theorem evLs_get {R : List RdT} {p q : Int} {i : Nat} {nm : List UInt8} {b u : Int} {up : Bool} (h : R[i]? = some (nm, b, u, up)) : (evLs R p q)[i]? = some (rdN b u up p q) := by unfold evLs; rw [List.getElem?_map, h]; rfl
theorem evLs_len {R : List RdT} {p q : Int} : (evLs R p q).length = R.length := by simp [evLs]
theorem rdC_0 {nm : List UInt8} {b u p q : Int} {up : Bool} (h : rdCode nm b u up p q = 0) : rdrB nm b u = true ∧ fOk p q = true ∧ rdVal nm b u up p q = rdN b u up p q := by
  refine ⟨?_, ?_, by unfold rdVal; rw [if_pos h]⟩ <;>
  · unfold rdCode at h
    split at h
    · rename_i h1; rw [Bool.and_eq_true] at h1; first | exact h1.1 | exact h1.2
    · simp at h
theorem ev_in {R : List RdT} {p q : Int} (hf : fOk p q = true) (h : ∀ (j : Nat) (r : RdT), R[j]? = some r → rdCode r.1 r.2.1 r.2.2.1 r.2.2.2 p q = 0) : ∀ a ∈ vfW R (evLs R p q), inP a p q := fun a ha => by
  obtain ⟨j, hj⟩ := List.getElem?_of_mem ha
  unfold vfW at hj
  rw [List.getElem?_map] at hj
  cases hz : (R.zip (evLs R p q))[j]? with
  | none => rw [hz] at hj; simp at hj
  | some z =>
    rw [hz] at hj
    obtain ⟨⟨nm, b, u, up⟩, v⟩ := z
    rw [List.getElem?_zip_eq_some] at hz
    have h1 := rdC_0 (h _ _ hz.1)
    have hv := evLs_get (p := p) (q := q) hz.1
    rw [hz.2] at hv
    obtain rfl := Option.some.inj hv
    obtain rfl := Option.some.inj hj
    have hg := h1.1
    simp only [rdrB, Bool.and_eq_true] at hg
    have hg := gB_iff.1 hg.2
    unfold gB at hg
    have hs := smF_ok hf
    unfold smF at hs
    exact sp_in hg.2.1 hs.2.1
theorem vf_0 {R : List RdT} {L : List Int} (h : vfC R L = 0) : ∃ s, mtN (vfW R L) R.length = some s ∧ vfV R L = s ∧ areB L = true ∧ allR R = true := by
  have e := h
  unfold vfC at h
  split at h
  · rename_i h1
    split at h
    · rename_i h2
      split at h
      · split at h
        · cases hm : mtN (vfW R L) R.length with
          | none => rw [hm] at h; simp at h
          | some s => exact ⟨s, rfl, by unfold vfV; rw [if_pos e, hm]; rfl, h2, h1⟩
        · simp at h
      · simp at h
    · simp at h
  · simp at h
theorem ev_sl {p q : Int} {n x : Nat} {l : List RdT} (hn : n ≤ l.length) (hg : ∀ (j : Nat) r, l[j]? = some r → rdrGood r) : RunsS Try.prog 11 [.agg [.int .i64 p, .int .i64 q], .sl 0 0 n x] [.arr (.prod .str (.prod (.int .i16) (.prod (.int .i16) .bool))) l 4 false] (.bool true) [.arr (.prod .str (.prod (.int .i16) (.prod (.int .i16) .bool))) l 4 false] := by
  have hL : (seg l 0 n).length = n := seg_len (by omega)
  refine funW tabOk (E := [(52, s_ReadingOf), (49, s_ReadingOf), (40, s_vf), (39, s_vf), (50, s_InSpan)]) ⟨ok_ReadingOfI, ok_ReadingOfS, ok_ValueFromI, ok_ValueFromS, ok_InSpan, trivial⟩ [] (k := 1) (fn := Try.f11) rfl rfl rfl rfl rfl rfl ?_
  (repeat' ((try (conv => whnf)); first | (with_reducible first | refine And.intro ?_ ?_ | refine WX.of ?_ | exact VC.mk rfl | exact True.intro | exact VC.mk ⟨rfl, fun e => e⟩ | exact VC.mk ⟨fun e => e, rfl⟩ | exact VC.mk (Nat.le_refl _) | exact drawOk_i (by decide +kernel) (by decide +kernel) (by decide +kernel)) | ((with_reducible refine VC.mk ?_); first | (dsimp only; done) | omega | (congr 1; (try simp (disch := omega) only [w64]); omega) | exact ⟨rfl, rfl⟩ | (refine ⟨?_, ?_, ?_⟩; assumption; assumption; omega) | (refine ⟨Nat.le_trans (Nat.mul_le_mul_left _ (m := 1000) ?_) ?_, ?_⟩; decide; omega; omega)) | with_reducible refine splitT ?_ | with_reducible refine splitF ?_ | ((with_reducible refine splitB.mk (fun h => ?_) (fun h => ?_)) <;> (try simp only [decide_eq_true_eq, decide_eq_false_iff_not, ne_eq, Decidable.not_not, Int.not_lt, Int.not_le, Bool.not_eq_true', Bool.not_eq_false'] at h) <;> (try simp (disch := omega) only [w64] at h) <;> (try (exfalso; first | omega | exact h True.intro | (simp only [and_self, not_true_eq_false] at h; done) | (simp only [beq_self_eq_true, Bool.true_eq_false, reduceCtorEq] at h; done)))) | (with_reducible intro hz; (try exact absurd hz (Nat.succ_ne_zero _)))))
  refine loopW tabOk (E := [(52, s_ReadingOf), (49, s_ReadingOf), (40, s_vf), (39, s_vf), (50, s_InSpan)]) ⟨ok_ReadingOfI, ok_ReadingOfS, ok_ValueFromI, ok_ValueFromS, ok_InSpan, trivial⟩ [] (σ := Nat) (fun i => [(1, .sl 0 0 n x), (2, .ptr 1 0 0), (5, .sl 2 0 i 0), (6, .int .i64 i)]) (fun i => [.arr (.prod .str (.prod (.int .i16) (.prod (.int .i16) .bool))) l 4 false, .arr (.prod (.int .i64) (.int .i64)) [(p, q)] 0 true, .arr (.int .i64) ((evLs (seg l 0 n) p q).take i) 1 true]) (fun i => n - i) (fun i => i ≤ n ∧ ∀ (j : Nat) (r : RdT), j < i → (seg l 0 n)[j]? = some r → rdCode r.1 r.2.1 r.2.2.1 r.2.2.2 p q = 0) 0 ⟨Nat.zero_le _, fun j a hj => by omega⟩ ?_ ?_
  · (repeat' ((try (conv => whnf)); first | (with_reducible first | refine And.intro ?_ ?_ | refine WX.of ?_ | exact VC.mk rfl | exact True.intro | exact VC.mk ⟨rfl, fun e => e⟩ | exact VC.mk ⟨fun e => e, rfl⟩ | exact VC.mk (Nat.le_refl _) | exact drawOk_i (by decide +kernel) (by decide +kernel) (by decide +kernel)) | ((with_reducible refine VC.mk ?_); first | (dsimp only; done) | omega | (congr 1; (try simp (disch := omega) only [w64]); omega) | exact ⟨rfl, rfl⟩ | (refine ⟨?_, ?_, ?_⟩; assumption; assumption; omega) | (refine ⟨Nat.le_trans (Nat.mul_le_mul_left _ (m := 1000) ?_) ?_, ?_⟩; decide; omega; omega)) | with_reducible refine splitT ?_ | with_reducible refine splitF ?_ | ((with_reducible refine splitB.mk (fun h => ?_) (fun h => ?_)) <;> (try simp only [decide_eq_true_eq, decide_eq_false_iff_not, ne_eq, Decidable.not_not, Int.not_lt, Int.not_le, Bool.not_eq_true', Bool.not_eq_false'] at h) <;> (try simp (disch := omega) only [w64] at h) <;> (try (exfalso; first | omega | exact h True.intro | (simp only [and_self, not_true_eq_false] at h; done) | (simp only [beq_self_eq_true, Bool.true_eq_false, reduceCtorEq] at h; done)))) | (with_reducible intro hz; (try exact absurd hz (Nat.succ_ne_zero _)))))
  · intro i ⟨hi, hp⟩
    have htl : ((evLs (seg l 0 n) p q).take i).length = i := by rw [List.length_take, evLs_len]; omega
    by_cases hlt : i < n
    · obtain ⟨⟨nm, b, u, up⟩, ha⟩ := get_some (l := seg l 0 n) (i := i) (by omega)
      have hgd := hg _ _ (seg_get ha).1
      unfold rdrGood at hgd
      (repeat' ((try (conv => whnf)); first | (with_reducible first | refine And.intro ?_ ?_ | refine WX.of ?_ | exact VC.mk rfl | exact True.intro | exact VC.mk ⟨rfl, fun e => e⟩ | exact VC.mk ⟨fun e => e, rfl⟩ | exact VC.mk (Nat.le_refl _) | exact drawOk_i (by decide +kernel) (by decide +kernel) (by decide +kernel)) | ((with_reducible refine VC.mk ?_); first | (dsimp only; done) | omega | (congr 1; (try simp (disch := omega) only [w64]); omega) | exact ⟨rfl, rfl⟩ | (refine ⟨?_, ?_, ?_⟩; assumption; assumption; omega) | (refine ⟨Nat.le_trans (Nat.mul_le_mul_left _ (m := 1000) ?_) ?_, ?_⟩; decide; omega; omega)) | with_reducible refine atL_i ha ?_ | ((with_reducible refine VC.mk ?_); exact hgd) | with_reducible refine splitT ?_ | with_reducible refine splitF ?_ | ((with_reducible refine splitB.mk (fun h => ?_) (fun h => ?_)) <;> (try simp only [decide_eq_true_eq, decide_eq_false_iff_not, ne_eq, Decidable.not_not, Int.not_lt, Int.not_le, Bool.not_eq_true', Bool.not_eq_false'] at h) <;> (try simp (disch := omega) only [w64] at h) <;> (try (exfalso; first | omega | exact h True.intro | (simp only [and_self, not_true_eq_false] at h; done) | (simp only [beq_self_eq_true, Bool.true_eq_false, reduceCtorEq] at h; done)))) | (with_reducible intro hz; (try exact absurd hz (Nat.succ_ne_zero _)))))
      refine ⟨i + 1, by omega, ⟨hlt, upto_step (p := fun r : RdT => rdCode r.1 r.2.1 r.2.2.1 r.2.2.2 p q = 0) ha h hp⟩, ?_⟩
      (repeat' ((try (conv => whnf)); first | (with_reducible first | refine And.intro ?_ ?_ | refine WX.of ?_ | exact VC.mk rfl | exact True.intro | exact VC.mk ⟨rfl, fun e => e⟩ | exact VC.mk ⟨fun e => e, rfl⟩ | exact VC.mk (Nat.le_refl _) | exact drawOk_i (by decide +kernel) (by decide +kernel) (by decide +kernel)) | ((with_reducible refine VC.mk ?_); first | (dsimp only; done) | omega | (congr 1; (try simp (disch := omega) only [w64]); omega) | exact ⟨rfl, rfl⟩ | (refine ⟨?_, ?_, ?_⟩; assumption; assumption; omega) | (refine ⟨Nat.le_trans (Nat.mul_le_mul_left _ (m := 1000) ?_) ?_, ?_⟩; decide; omega; omega)) | with_reducible refine splitT ?_ | with_reducible refine splitF ?_ | ((with_reducible refine splitB.mk (fun h => ?_) (fun h => ?_)) <;> (try simp only [decide_eq_true_eq, decide_eq_false_iff_not, ne_eq, Decidable.not_not, Int.not_lt, Int.not_le, Bool.not_eq_true', Bool.not_eq_false'] at h) <;> (try simp (disch := omega) only [w64] at h) <;> (try (exfalso; first | omega | exact h True.intro | (simp only [and_self, not_true_eq_false] at h; done) | (simp only [beq_self_eq_true, Bool.true_eq_false, reduceCtorEq] at h; done)))) | (with_reducible intro hz; (try exact absurd hz (Nat.succ_ne_zero _)))))
      exact ⟨by rw [(rdC_0 h).2.2]; exact app_take (evLs_get ha)⟩
    · obtain rfl : i = n := by omega
      rw [List.take_of_length_le (by rw [evLs_len]; omega)]
      have hse : seg (evLs (seg l 0 i) p q) 0 i = evLs (seg l 0 i) p q := seg_full (by rw [evLs_len, hL])
      have hall : ∀ (j : Nat) (r : RdT), (seg l 0 i)[j]? = some r → rdCode r.1 r.2.1 r.2.2.1 r.2.2.2 p q = 0 := fun j r hj => hp j r (by have := (List.getElem?_eq_some_iff.1 hj).1; omega) hj
      have hfin : vfC (seg l 0 i) (evLs (seg l 0 i) p q) = 0 → (spOk (vfV (seg l 0 i) (evLs (seg l 0 i) p q)).1.1 (vfV (seg l 0 i) (evLs (seg l 0 i) p q)).1.2 (vfV (seg l 0 i) (evLs (seg l 0 i) p q)).2.1 (vfV (seg l 0 i) (evLs (seg l 0 i) p q)).2.2 && fOk p q) = true ∧ inP (vfV (seg l 0 i) (evLs (seg l 0 i) p q)) p q := fun hz => by
        obtain ⟨s, h1, h2, h3, h4⟩ := vf_0 hz
        have hlen := (are_len h3).1
        rw [evLs_len] at hlen
        obtain ⟨⟨nm, b, u, up⟩, ha⟩ := get_some (l := seg l 0 i) (i := 0) (by omega)
        have hf := (rdC_0 (hall _ _ ha)).2.1
        rw [h2]
        exact ⟨by rw [hf, Bool.and_true]; exact mtN_ok (vfW_ok h4 h3) h1, in_mtN (ev_in hf hall) h1⟩
      (repeat' ((try (conv => whnf)); first | (with_reducible first | refine And.intro ?_ ?_ | refine WX.of ?_ | exact VC.mk rfl | exact True.intro | exact VC.mk ⟨rfl, fun e => e⟩ | exact VC.mk ⟨fun e => e, rfl⟩ | exact VC.mk (Nat.le_refl _) | exact drawOk_i (by decide +kernel) (by decide +kernel) (by decide +kernel)) | ((with_reducible refine VC.mk ?_); first | (dsimp only; done) | omega | (congr 1; (try simp (disch := omega) only [w64]); omega) | exact ⟨rfl, rfl⟩ | (refine ⟨?_, ?_, ?_⟩; assumption; assumption; omega) | (refine ⟨Nat.le_trans (Nat.mul_le_mul_left _ (m := 1000) ?_) ?_, ?_⟩; decide; omega; omega)) | ((with_reducible refine VC.mk ?_); (refine ⟨⟨?_, ?_, hg⟩, ?_, ?_⟩); (omega); (omega); (rw [evLs_len]; omega); (omega)) | with_reducible refine splitT ?_ | with_reducible refine splitF ?_ | ((with_reducible refine splitB.mk (fun h => ?_) (fun h => ?_)) <;> (try simp only [decide_eq_true_eq, decide_eq_false_iff_not, ne_eq, Decidable.not_not, Int.not_lt, Int.not_le, Bool.not_eq_true', Bool.not_eq_false'] at h) <;> (try simp (disch := omega) only [w64] at h) <;> (try (exfalso; first | omega | exact h True.intro | (simp only [and_self, not_true_eq_false] at h; done) | (simp only [beq_self_eq_true, Bool.true_eq_false, reduceCtorEq] at h; done)))) | (with_reducible intro hz; (try exact absurd hz (Nat.succ_ne_zero _)))))
      · simp at h
      · rename_i hz
        rw [hse] at hz
        obtain ⟨h1, h2⟩ := hfin hz
        unfold inP at h2
        refine ⟨congrArg SV.bool ?_⟩
        simp only [hse, h1, decide_eq_true h2.1, decide_eq_true h2.2, Bool.and_self]
      · rename_i hz
        rw [hse] at hz
        obtain ⟨h1, h2⟩ := hfin hz
        rw [hse, h1] at h
        simp at h
theorem law_everyValue {y1 : Int × Int} (ho1 : ET.Ok (.prod (.int .i64) (.int .i64)) y1) {c2 : Bool} {n2 : Nat} {l2 : List RdT} (hn2 : n2 ≤ l2.length) (hc2 : c2 = true → l2 = []) (ho2 : ∀ y ∈ l2, ET.Ok (.prod .str (.prod (.int .i16) (.prod (.int .i16) .bool))) y) : RunsS Try.prog 11 [.agg (ET.enc (.prod (.int .i64) (.int .i64)) y1), .opt c2 0 n2 0] [.arrO (.prod .str (.prod (.int .i16) (.prod (.int .i16) .bool))) l2 4] (.bool true) [.arrO (.prod .str (.prod (.int .i16) (.prod (.int .i16) .bool))) l2 4] := by
  obtain ⟨p, q⟩ := y1
  have hg : ∀ (j : Nat) (r : RdT), l2[j]? = some r → rdrGood r := fun j a ha => by
    have h1 := ho2 a (List.mem_of_getElem? ha)
    have h2 := ok_i16 h1.2.1
    have h3 := ok_i16 h1.2.2.1
    unfold rdrGood
    exact ⟨h1.1, ⟨h2.1, by omega⟩, h3.1, by omega⟩
  exact RunsS.opt (pre := [_]) (post := []) rfl rfl hn2 (fun hn _ hl => by subst hl; exact ev_none (.inl rfl)) (fun hn _ hl => by subst hl; exact ev_none (.inr rfl)) (ev_sl hn2 hg) hc2
end Go.Proofs.Ytpnlbacfofdibaa.Eng
