/- vfrom2: lemmas for the proof, no conditions of their own. -/
import Derived.Test.YtpnlbacfofdibaaXvfrom
set_option linter.unusedVariables false
set_option linter.unusedSimpArgs false
namespace Go.Proofs.Ytpnlbacfofdibaa.Eng
open Go Go.RowKit
set_option maxRecDepth 100000
theorem vfV_e {R : List RdT} {L : List Int} {c : Int} (e : vfC R L = c) (hc : c ≠ 0) : vfV R L = ((0, 0), 0, 0) := by unfold vfV; rw [e, if_neg hc]
theorem vfC_1 {R : List RdT} {L : List Int} (h : allR R = false) : vfC R L = 1 := by simp [vfC, h]
theorem vfC_2 {R : List RdT} {L : List Int} (h : allR R = true) (h2 : areB L = false) : vfC R L = 2 := by simp [vfC, h, h2]
theorem vfC_3 {R : List RdT} {L : List Int} (h : allR R = true) (h2 : areB L = true) (h3 : ¬ (R.length = L.length ∧ R.length ≤ 12)) : vfC R L = 2 := by unfold vfC; rw [if_pos h, if_pos h2, if_neg h3]
theorem vfC_4 {R : List RdT} {L : List Int} (h : allR R = true) (h2 : areB L = true) (h3 : R.length = L.length ∧ R.length ≤ 12) (h4 : vfM R L = false) : vfC R L = 4 := by unfold vfC; rw [if_pos h, if_pos h2, if_pos h3, h4]; rfl
theorem vfC_8 {R : List RdT} {L : List Int} (h : allR R = true) (h2 : areB L = true) (h3 : R.length = L.length ∧ R.length ≤ 12) (h4 : vfM R L = true) (h5 : mtN (vfW R L) R.length = none) : vfC R L = 8 := by unfold vfC; rw [if_pos h, if_pos h2, if_pos h3, if_pos h4, h5]; rfl
theorem vfC_0 {R : List RdT} {L : List Int} {s : SpT} (h : allR R = true) (h2 : areB L = true) (h3 : R.length = L.length ∧ R.length ≤ 12) (h4 : vfM R L = true) (h5 : mtN (vfW R L) R.length = some s) : vfC R L = 0 ∧ vfV R L = s := by
  have e : vfC R L = 0 := by unfold vfC; rw [if_pos h, if_pos h2, if_pos h3, if_pos h4, h5]; rfl
  exact ⟨e, by unfold vfV; rw [if_pos e, h5]; rfl⟩
theorem vfW_ok {R : List RdT} {L : List Int} (h : allR R = true) (h2 : areB L = true) : ∀ x ∈ vfW R L, spB x = true := fun x hx => by
  obtain ⟨j, hj⟩ := List.getElem?_of_mem hx
  unfold vfW at hj
  rw [List.getElem?_map] at hj
  cases hz : (R.zip L)[j]? with
  | none => rw [hz] at hj; simp at hj
  | some z =>
    rw [hz] at hj
    obtain ⟨⟨nm, b, u, up⟩, a⟩ := z
    rw [List.getElem?_zip_eq_some] at hz
    have hg := allR_at h hz.1
    unfold gB at hg
    obtain rfl := Option.some.inj hj
    exact sp_lt hg.2 hg.1 (are_all h2 hz.2)
theorem upto_two {α : Type} {p : Nat → α → Prop} {L : List α} {i : Nat} {a : α} (ha : L[i]? = some a) (hp : p i a) (h : ∀ (j : Nat) b, j < i → L[j]? = some b → p j b) : ∀ (j : Nat) b, j < i + 1 → L[j]? = some b → p j b := fun j b hj hb => by
  by_cases e : j < i
  · exact h j b e hb
  · obtain rfl : j = i := by omega
    rw [ha] at hb; obtain rfl := Option.some.inj hb; exact hp
def s_vf : Spec := fun args S => match args, S with
  | [.sl 0 a m y, .sl 1 s n x], [.arr (.prod .str (.prod (.int .i16) (.prod (.int .i16) .bool))) R 4 wR, .arr (.int .i64) l 1 wr] => ⟨(a + m ≤ R.length ∧ m ≤ 1048576 ∧ ∀ (j : Nat) r, R[j]? = some r → rdrGood r) ∧ s + n ≤ l.length ∧ n ≤ 1048576, .tup [.agg [.int .i64 (vfV (seg R a m) (seg l s n)).1.1, .int .i64 (vfV (seg R a m) (seg l s n)).1.2, .int .i64 (vfV (seg R a m) (seg l s n)).2.1, .int .i64 (vfV (seg R a m) (seg l s n)).2.2], .int .i64 (vfC (seg R a m) (seg l s n))], [.arr (.prod .str (.prod (.int .i16) (.prod (.int .i16) .bool))) R 4 wR, .arr (.int .i64) l 1 wr]⟩
  | _, _ => noSpec
theorem ok_ValueFromI : SpecOk Try.prog 40 s_vf := by
  intro args S h; unfold s_vf at h ⊢; (split at h <;> first | exact False.elim h | skip)
  dsimp only at h ⊢
  rename_i a m y s n x R wR l wr
  obtain ⟨⟨h1, h2, ho⟩, h3, h4⟩ := h
  have hL := seg_len h1
  have hM := seg_len h3
  refine funW tabOk (E := [(82, s_allR), (73, s_are), (74, s_corrected), (83, s_mAll)]) ⟨ok_areReaders, ok_areReadings, ok_corrected, ok_meetAll, trivial⟩ [(9, [(10, 0)])] (k := 2) (fn := Try.f40) rfl rfl rfl rfl rfl rfl ?_
  (repeat' ((try (conv => whnf)); first | (with_reducible first | refine And.intro ?_ ?_ | refine WX.of ?_ | exact VC.mk rfl | exact True.intro | exact VC.mk ⟨rfl, fun e => e⟩ | exact VC.mk ⟨fun e => e, rfl⟩ | exact VC.mk (Nat.le_refl _) | exact drawOk_i (by decide +kernel) (by decide +kernel) (by decide +kernel)) | ((with_reducible refine VC.mk ?_); first | (dsimp only; done) | omega | (congr 1; (try simp (disch := omega) only [w64]); omega) | exact ⟨rfl, rfl⟩ | (refine ⟨?_, ?_, ?_⟩; assumption; assumption; omega) | (refine ⟨Nat.le_trans (Nat.mul_le_mul_left _ (m := 1000) ?_) ?_, ?_⟩; decide; omega; omega)) | ((with_reducible refine VC.mk ?_); (refine ⟨h1, ?_, ho⟩); (omega)) | with_reducible refine splitT ?_ | with_reducible refine splitF ?_ | ((with_reducible refine splitB.mk (fun h => ?_) (fun h => ?_)) <;> (try simp only [decide_eq_true_eq, decide_eq_false_iff_not, ne_eq, Decidable.not_not, Int.not_lt, Int.not_le, Bool.not_eq_true', Bool.not_eq_false'] at h) <;> (try simp (disch := omega) only [w64] at h) <;> (try (exfalso; first | omega | exact h True.intro | (simp only [and_self, not_true_eq_false] at h; done) | (simp only [beq_self_eq_true, Bool.true_eq_false, reduceCtorEq] at h; done)))) | (with_reducible intro hz; (try exact absurd hz (Nat.succ_ne_zero _)))))
  · exact ⟨by rw [vfV_e (vfC_1 h) (by decide), vfC_1 h]⟩
  · rename_i hR
    have h' := h
    exact ⟨by rw [vfV_e (vfC_2 hR h') (by decide), vfC_2 hR h']⟩
  · rename_i hR hA
    skip
    exact ⟨by rw [vfV_e (vfC_3 hR hA (by omega)) (by decide), vfC_3 hR hA (by omega)]⟩
  · rename_i hR hA hmn
    skip
    exact ⟨by rw [vfV_e (vfC_3 hR hA (by omega)) (by decide), vfC_3 hR hA (by omega)]⟩
  · rename_i hR hA hmn
    have h12 := h
    skip
    obtain rfl : m = n := by omega
    have h3' : (seg R a m).length = (seg l s m).length ∧ (seg R a m).length ≤ 12 := by omega
    have hlen := are_len hA
    have hWl := vfW_len hL hM
    have hW := vfW_ok hR hA
    refine loopW tabOk (E := [(82, s_allR), (73, s_are), (74, s_corrected), (83, s_mAll)]) ⟨ok_areReaders, ok_areReadings, ok_corrected, ok_meetAll, trivial⟩ [(9, [(10, 0)])] (σ := Nat) (fun i => [(1, .sl 1 s m x), (4, .ptr 2 0 0), (6, .ptr 3 0 0), (7, .sl 4 0 i 0), (39, .sl 0 a m y), (40, .int .i64 m), (41, .int .i64 i)]) (fun i => [.arr (.prod .str (.prod (.int .i16) (.prod (.int .i16) .bool))) R 4 wR, .arr (.int .i64) l 1 wr, .arr (.prod (.prod (.int .i64) (.int .i64)) (.prod (.int .i64) (.int .i64))) [((0, 0), 0, 0)] 0 true, .arr .bool [false] 0 true, .arr (.prod (.prod (.int .i64) (.int .i64)) (.prod (.int .i64) (.int .i64))) ((vfW (seg R a m) (seg l s m)).take i) 4 true]) (fun i => m - i) (fun i => i ≤ m ∧ ∀ (j : Nat) (r : RdT), j < i → (seg R a m)[j]? = some r → ∀ b, (seg l s m)[j]? = some b → b.tmod r.2.2.1 = 0) 0 ⟨Nat.zero_le _, fun j a hj => by omega⟩ ?_ ?_
    · (repeat' ((try (conv => whnf)); first | (with_reducible first | refine And.intro ?_ ?_ | refine WX.of ?_ | exact VC.mk rfl | exact True.intro | exact VC.mk ⟨rfl, fun e => e⟩ | exact VC.mk ⟨fun e => e, rfl⟩ | exact VC.mk (Nat.le_refl _) | exact drawOk_i (by decide +kernel) (by decide +kernel) (by decide +kernel)) | ((with_reducible refine VC.mk ?_); first | (dsimp only; done) | omega | (congr 1; (try simp (disch := omega) only [w64]); omega) | exact ⟨rfl, rfl⟩ | (refine ⟨?_, ?_, ?_⟩; assumption; assumption; omega) | (refine ⟨Nat.le_trans (Nat.mul_le_mul_left _ (m := 1000) ?_) ?_, ?_⟩; decide; omega; omega)) | with_reducible refine splitT ?_ | with_reducible refine splitF ?_ | ((with_reducible refine splitB.mk (fun h => ?_) (fun h => ?_)) <;> (try simp only [decide_eq_true_eq, decide_eq_false_iff_not, ne_eq, Decidable.not_not, Int.not_lt, Int.not_le, Bool.not_eq_true', Bool.not_eq_false'] at h) <;> (try simp (disch := omega) only [w64] at h) <;> (try (exfalso; first | omega | exact h True.intro | (simp only [and_self, not_true_eq_false] at h; done) | (simp only [beq_self_eq_true, Bool.true_eq_false, reduceCtorEq] at h; done)))) | (with_reducible intro hz; (try exact absurd hz (Nat.succ_ne_zero _)))))
    · intro i ⟨hi, hp⟩
      have htl : ((vfW (seg R a m) (seg l s m)).take i).length = i := by rw [List.length_take]; omega
      by_cases hlt : i < m
      · obtain ⟨⟨nm, b, u, up⟩, ha⟩ := get_some (l := seg R a m) (i := i) (by omega)
        obtain ⟨v, hv⟩ := get_some (l := seg l s m) (i := i) (by omega)
        have hg := allR_at hR ha
        have hvb := are_all hA hv
        (repeat' ((try (conv => whnf)); first | (with_reducible first | refine And.intro ?_ ?_ | refine WX.of ?_ | exact VC.mk rfl | exact True.intro | exact VC.mk ⟨rfl, fun e => e⟩ | exact VC.mk ⟨fun e => e, rfl⟩ | exact VC.mk (Nat.le_refl _) | exact drawOk_i (by decide +kernel) (by decide +kernel) (by decide +kernel)) | ((with_reducible refine VC.mk ?_); first | (dsimp only; done) | omega | (congr 1; (try simp (disch := omega) only [w64]); omega) | exact ⟨rfl, rfl⟩ | (refine ⟨?_, ?_, ?_⟩; assumption; assumption; omega) | (refine ⟨Nat.le_trans (Nat.mul_le_mul_left _ (m := 1000) ?_) ?_, ?_⟩; decide; omega; omega)) | with_reducible refine atL_i ha ?_ | with_reducible refine atL_i hv ?_ | ((with_reducible refine VC.mk ?_); exact ⟨rfl, hg, hvb⟩) | with_reducible refine splitT ?_ | with_reducible refine splitF ?_ | ((with_reducible refine splitB.mk (fun h => ?_) (fun h => ?_)) <;> (try simp only [decide_eq_true_eq, decide_eq_false_iff_not, ne_eq, Decidable.not_not, Int.not_lt, Int.not_le, Bool.not_eq_true', Bool.not_eq_false'] at h) <;> (try simp (disch := omega) only [w64] at h) <;> (try (exfalso; first | omega | exact h True.intro | (simp only [and_self, not_true_eq_false] at h; done) | (simp only [beq_self_eq_true, Bool.true_eq_false, reduceCtorEq] at h; done)))) | (with_reducible intro hz; (try exact absurd hz (Nat.succ_ne_zero _)))))
        · exact ⟨by rw [vfV_e (vfC_4 hR hA h3' (vfM_no ha hv h)) (by decide), vfC_4 hR hA h3' (vfM_no ha hv h)]⟩
        · refine ⟨i + 1, by omega, ⟨hlt, upto_two (p := fun j (r : RdT) => ∀ b, (seg l s m)[j]? = some b → b.tmod r.2.2.1 = 0) ha (fun b' hb' => by rw [hv] at hb'; obtain rfl := Option.some.inj hb'; exact h) hp⟩, ?_⟩
          (repeat' ((try (conv => whnf)); first | (with_reducible first | refine And.intro ?_ ?_ | refine WX.of ?_ | exact VC.mk rfl | exact True.intro | exact VC.mk ⟨rfl, fun e => e⟩ | exact VC.mk ⟨fun e => e, rfl⟩ | exact VC.mk (Nat.le_refl _) | exact drawOk_i (by decide +kernel) (by decide +kernel) (by decide +kernel)) | ((with_reducible refine VC.mk ?_); first | (dsimp only; done) | omega | (congr 1; (try simp (disch := omega) only [w64]); omega) | exact ⟨rfl, rfl⟩ | (refine ⟨?_, ?_, ?_⟩; assumption; assumption; omega) | (refine ⟨Nat.le_trans (Nat.mul_le_mul_left _ (m := 1000) ?_) ?_, ?_⟩; decide; omega; omega)) | with_reducible refine splitT ?_ | with_reducible refine splitF ?_ | ((with_reducible refine splitB.mk (fun h => ?_) (fun h => ?_)) <;> (try simp only [decide_eq_true_eq, decide_eq_false_iff_not, ne_eq, Decidable.not_not, Int.not_lt, Int.not_le, Bool.not_eq_true', Bool.not_eq_false'] at h) <;> (try simp (disch := omega) only [w64] at h) <;> (try (exfalso; first | omega | exact h True.intro | (simp only [and_self, not_true_eq_false] at h; done) | (simp only [beq_self_eq_true, Bool.true_eq_false, reduceCtorEq] at h; done)))) | (with_reducible intro hz; (try exact absurd hz (Nat.succ_ne_zero _)))))
          exact ⟨app_take (vfW_get ha hv)⟩
      · obtain rfl : i = m := by omega
        have hM1 := vfM_yes hL hM hp
        have hs : seg (vfW (seg R a i) (seg l s i)) 0 i = vfW (seg R a i) (seg l s i) := seg_full hWl
        rw [List.take_of_length_le (by omega)]
        cases hm : mtN (vfW (seg R a i) (seg l s i)) i with
        | none =>
          have hc := vfC_8 hR hA h3' hM1 (by rw [hL]; exact hm)
          (repeat' ((try (conv => whnf)); first | (with_reducible first | refine And.intro ?_ ?_ | refine WX.of ?_ | exact VC.mk rfl | exact True.intro | exact VC.mk ⟨rfl, fun e => e⟩ | exact VC.mk ⟨fun e => e, rfl⟩ | exact VC.mk (Nat.le_refl _) | exact drawOk_i (by decide +kernel) (by decide +kernel) (by decide +kernel)) | ((with_reducible refine VC.mk ?_); first | (dsimp only; done) | omega | (congr 1; (try simp (disch := omega) only [w64]); omega) | exact ⟨rfl, rfl⟩ | (refine ⟨?_, ?_, ?_⟩; assumption; assumption; omega) | (refine ⟨Nat.le_trans (Nat.mul_le_mul_left _ (m := 1000) ?_) ?_, ?_⟩; decide; omega; omega)) | ((with_reducible refine VC.mk ?_); (refine ⟨?_, ?_, ?_, ?_⟩); (omega); (omega); (omega); (rw [hs]; exact hW)) | ((with_reducible refine splitT_of ?_ ?_); (focus (simp only [hs, hm, Bool.not_true, Bool.not_false, decide_true, decide_false]; done))) | ((with_reducible refine splitF_of ?_ ?_); (focus (simp only [hs, hm, Bool.not_true, Bool.not_false, decide_true, decide_false]; done))) | with_reducible refine splitT ?_ | with_reducible refine splitF ?_ | ((with_reducible refine splitB.mk (fun h => ?_) (fun h => ?_)) <;> (try simp only [decide_eq_true_eq, decide_eq_false_iff_not, ne_eq, Decidable.not_not, Int.not_lt, Int.not_le, Bool.not_eq_true', Bool.not_eq_false'] at h) <;> (try simp (disch := omega) only [w64] at h) <;> (try (exfalso; first | omega | exact h True.intro | (simp only [and_self, not_true_eq_false] at h; done) | (simp only [beq_self_eq_true, Bool.true_eq_false, reduceCtorEq] at h; done)))) | (with_reducible intro hz; (try exact absurd hz (Nat.succ_ne_zero _)))))
          · exact ⟨by rw [vfV_e hc (by decide), hc]⟩
          · rw [hs, hm] at h; simp at h
        | some c =>
          have hc := vfC_0 hR hA h3' hM1 (by rw [hL]; exact hm)
          (repeat' ((try (conv => whnf)); first | (with_reducible first | refine And.intro ?_ ?_ | refine WX.of ?_ | exact VC.mk rfl | exact True.intro | exact VC.mk ⟨rfl, fun e => e⟩ | exact VC.mk ⟨fun e => e, rfl⟩ | exact VC.mk (Nat.le_refl _) | exact drawOk_i (by decide +kernel) (by decide +kernel) (by decide +kernel)) | ((with_reducible refine VC.mk ?_); first | (dsimp only; done) | omega | (congr 1; (try simp (disch := omega) only [w64]); omega) | exact ⟨rfl, rfl⟩ | (refine ⟨?_, ?_, ?_⟩; assumption; assumption; omega) | (refine ⟨Nat.le_trans (Nat.mul_le_mul_left _ (m := 1000) ?_) ?_, ?_⟩; decide; omega; omega)) | ((with_reducible refine VC.mk ?_); (refine ⟨?_, ?_, ?_, ?_⟩); (omega); (omega); (omega); (rw [hs]; exact hW)) | ((with_reducible refine splitT_of ?_ ?_); (focus (simp only [hs, hm, Bool.not_true, Bool.not_false, decide_true, decide_false]; done))) | ((with_reducible refine splitF_of ?_ ?_); (focus (simp only [hs, hm, Bool.not_true, Bool.not_false, decide_true, decide_false]; done))) | with_reducible refine splitT ?_ | with_reducible refine splitF ?_ | ((with_reducible refine splitB.mk (fun h => ?_) (fun h => ?_)) <;> (try simp only [decide_eq_true_eq, decide_eq_false_iff_not, ne_eq, Decidable.not_not, Int.not_lt, Int.not_le, Bool.not_eq_true', Bool.not_eq_false'] at h) <;> (try simp (disch := omega) only [w64] at h) <;> (try (exfalso; first | omega | exact h True.intro | (simp only [and_self, not_true_eq_false] at h; done) | (simp only [beq_self_eq_true, Bool.true_eq_false, reduceCtorEq] at h; done)))) | (with_reducible intro hz; (try exact absurd hz (Nat.succ_ne_zero _)))))
          · rw [hs, hm] at h; simp at h
          · refine ⟨?_⟩
            rw [hc.1, hc.2]
            simp only [hs, hm]
            rfl
theorem ok_ValueFromS : SpecOk Try.prog 39 s_vf := by
  intro args S h; unfold s_vf at h ⊢; (split at h <;> first | exact False.elim h | skip)
  dsimp only at h ⊢
  rename_i a m y s n x R wR l wr
  obtain ⟨⟨h1, h2, ho⟩, h3, h4⟩ := h
  have hL := seg_len h1
  have hM := seg_len h3
  refine funW tabOk (E := [(80, s_allR), (71, s_l06List), (72, s_l06Span), (81, s_meet)]) ⟨ok_l06Valid, ok_l06List, ok_l06Span, ok_l01Meet, trivial⟩ [(13, [(6, 0)]), (17, [(0, 1), (13, 0), (13, 1)])] (k := 2) (fn := Try.f39) rfl rfl rfl rfl rfl rfl ?_
  (repeat' ((try (conv => whnf)); first | (with_reducible first | refine And.intro ?_ ?_ | refine WX.of ?_ | exact VC.mk rfl | exact True.intro | exact VC.mk ⟨rfl, fun e => e⟩ | exact VC.mk ⟨fun e => e, rfl⟩ | exact VC.mk (Nat.le_refl _) | exact drawOk_i (by decide +kernel) (by decide +kernel) (by decide +kernel)) | ((with_reducible refine VC.mk ?_); first | (dsimp only; done) | omega | (congr 1; (try simp (disch := omega) only [w64]); omega) | exact ⟨rfl, rfl⟩ | (refine ⟨?_, ?_, ?_⟩; assumption; assumption; omega) | (refine ⟨Nat.le_trans (Nat.mul_le_mul_left _ (m := 1000) ?_) ?_, ?_⟩; decide; omega; omega)) | ((with_reducible refine VC.mk ?_); (refine ⟨h1, ?_, ho⟩); (omega)) | with_reducible refine splitT ?_ | with_reducible refine splitF ?_ | ((with_reducible refine splitB.mk (fun h => ?_) (fun h => ?_)) <;> (try simp only [decide_eq_true_eq, decide_eq_false_iff_not, ne_eq, Decidable.not_not, Int.not_lt, Int.not_le, Bool.not_eq_true', Bool.not_eq_false'] at h) <;> (try simp (disch := omega) only [w64] at h) <;> (try (exfalso; first | omega | exact h True.intro | (simp only [and_self, not_true_eq_false] at h; done) | (simp only [beq_self_eq_true, Bool.true_eq_false, reduceCtorEq] at h; done)))) | (with_reducible intro hz; (try exact absurd hz (Nat.succ_ne_zero _)))))
  · exact ⟨by rw [vfV_e (vfC_1 h) (by decide), vfC_1 h]⟩
  · rename_i hR
    have h' : areB (seg l s n) = false := code_2.1 h
    exact ⟨by rw [vfV_e (vfC_2 hR h') (by decide), vfC_2 hR h', areCode, h']; rfl⟩
  · rename_i hR hA
    have hA := code_0.1 hA
    exact ⟨by rw [vfV_e (vfC_3 hR hA (by omega)) (by decide), vfC_3 hR hA (by omega)]⟩
  · rename_i hR hA hmn
    have hA := code_0.1 hA
    exact ⟨by rw [vfV_e (vfC_3 hR hA (by omega)) (by decide), vfC_3 hR hA (by omega)]⟩
  · rename_i hR hA hmn
    have h12 := h
    have hA := code_0.1 hA
    obtain rfl : m = n := by omega
    have h3' : (seg R a m).length = (seg l s m).length ∧ (seg R a m).length ≤ 12 := by omega
    have hlen := are_len hA
    have hWl := vfW_len hL hM
    have hW := vfW_ok hR hA
    refine loopW tabOk (E := [(80, s_allR), (71, s_l06List), (72, s_l06Span), (81, s_meet)]) ⟨ok_l06Valid, ok_l06List, ok_l06Span, ok_l01Meet, trivial⟩ [(13, [(6, 0)]), (17, [(0, 1), (13, 0), (13, 1)])] (σ := Nat) (fun i => [(0, .sl 0 a m y), (1, .sl 1 s m x), (4, .ptr 2 0 0), (7, .int .i64 i)]) (fun i => [.arr (.prod .str (.prod (.int .i16) (.prod (.int .i16) .bool))) R 4 wR, .arr (.int .i64) l 1 wr, .arr (.prod (.prod (.int .i64) (.int .i64)) (.prod (.int .i64) (.int .i64))) [((0, 0), 0, 0)] 0 true]) (fun i => m - i) (fun i => i ≤ m ∧ ∀ (j : Nat) (r : RdT), j < i → (seg R a m)[j]? = some r → ∀ b, (seg l s m)[j]? = some b → b.tmod r.2.2.1 = 0) 0 ⟨Nat.zero_le _, fun j a hj => by omega⟩ ?_ ?_
    · (repeat' ((try (conv => whnf)); first | (with_reducible first | refine And.intro ?_ ?_ | refine WX.of ?_ | exact VC.mk rfl | exact True.intro | exact VC.mk ⟨rfl, fun e => e⟩ | exact VC.mk ⟨fun e => e, rfl⟩ | exact VC.mk (Nat.le_refl _) | exact drawOk_i (by decide +kernel) (by decide +kernel) (by decide +kernel)) | ((with_reducible refine VC.mk ?_); first | (dsimp only; done) | omega | (congr 1; (try simp (disch := omega) only [w64]); omega) | exact ⟨rfl, rfl⟩ | (refine ⟨?_, ?_, ?_⟩; assumption; assumption; omega) | (refine ⟨Nat.le_trans (Nat.mul_le_mul_left _ (m := 1000) ?_) ?_, ?_⟩; decide; omega; omega)) | with_reducible refine splitT ?_ | with_reducible refine splitF ?_ | ((with_reducible refine splitB.mk (fun h => ?_) (fun h => ?_)) <;> (try simp only [decide_eq_true_eq, decide_eq_false_iff_not, ne_eq, Decidable.not_not, Int.not_lt, Int.not_le, Bool.not_eq_true', Bool.not_eq_false'] at h) <;> (try simp (disch := omega) only [w64] at h) <;> (try (exfalso; first | omega | exact h True.intro | (simp only [and_self, not_true_eq_false] at h; done) | (simp only [beq_self_eq_true, Bool.true_eq_false, reduceCtorEq] at h; done)))) | (with_reducible intro hz; (try exact absurd hz (Nat.succ_ne_zero _)))))
    · intro i ⟨hi, hp⟩
      by_cases hlt : i < m
      · obtain ⟨⟨nm, b, u, up⟩, ha⟩ := get_some (l := seg R a m) (i := i) (by omega)
        obtain ⟨v, hv⟩ := get_some (l := seg l s m) (i := i) (by omega)
        have hg := allR_at hR ha
        have hgb := hg
        unfold gB at hgb
        have hvb := are_all hA hv
        have htl := tmod_lt (a := v) (b := u) (by omega)
        (repeat' ((try (conv => whnf)); first | (with_reducible first | refine And.intro ?_ ?_ | refine WX.of ?_ | exact VC.mk rfl | exact True.intro | exact VC.mk ⟨rfl, fun e => e⟩ | exact VC.mk ⟨fun e => e, rfl⟩ | exact VC.mk (Nat.le_refl _) | exact drawOk_i (by decide +kernel) (by decide +kernel) (by decide +kernel)) | ((with_reducible refine VC.mk ?_); first | (dsimp only; done) | omega | (congr 1; (try simp (disch := omega) only [w64]); omega) | exact ⟨rfl, rfl⟩ | (refine ⟨?_, ?_, ?_⟩; assumption; assumption; omega) | (refine ⟨Nat.le_trans (Nat.mul_le_mul_left _ (m := 1000) ?_) ?_, ?_⟩; decide; omega; omega)) | with_reducible refine atL_i ha ?_ | with_reducible refine atL_i hv ?_ | with_reducible refine splitT ?_ | with_reducible refine splitF ?_ | ((with_reducible refine splitB.mk (fun h => ?_) (fun h => ?_)) <;> (try simp only [decide_eq_true_eq, decide_eq_false_iff_not, ne_eq, Decidable.not_not, Int.not_lt, Int.not_le, Bool.not_eq_true', Bool.not_eq_false'] at h) <;> (try simp (disch := omega) only [w64] at h) <;> (try (exfalso; first | omega | exact h True.intro | (simp only [and_self, not_true_eq_false] at h; done) | (simp only [beq_self_eq_true, Bool.true_eq_false, reduceCtorEq] at h; done)))) | (with_reducible intro hz; (try exact absurd hz (Nat.succ_ne_zero _)))))
        · exact ⟨by rw [vfV_e (vfC_4 hR hA h3' (vfM_no ha hv h)) (by decide), vfC_4 hR hA h3' (vfM_no ha hv h)]⟩
        · refine ⟨i + 1, by omega, ⟨hlt, upto_two (p := fun j (r : RdT) => ∀ b, (seg l s m)[j]? = some b → b.tmod r.2.2.1 = 0) ha (fun b' hb' => by rw [hv] at hb'; obtain rfl := Option.some.inj hb'; exact h) hp⟩, ?_⟩
          (repeat' ((try (conv => whnf)); first | (with_reducible first | refine And.intro ?_ ?_ | refine WX.of ?_ | exact VC.mk rfl | exact True.intro | exact VC.mk ⟨rfl, fun e => e⟩ | exact VC.mk ⟨fun e => e, rfl⟩ | exact VC.mk (Nat.le_refl _) | exact drawOk_i (by decide +kernel) (by decide +kernel) (by decide +kernel)) | ((with_reducible refine VC.mk ?_); first | (dsimp only; done) | omega | (congr 1; (try simp (disch := omega) only [w64]); omega) | exact ⟨rfl, rfl⟩ | (refine ⟨?_, ?_, ?_⟩; assumption; assumption; omega) | (refine ⟨Nat.le_trans (Nat.mul_le_mul_left _ (m := 1000) ?_) ?_, ?_⟩; decide; omega; omega)) | with_reducible refine splitT ?_ | with_reducible refine splitF ?_ | ((with_reducible refine splitB.mk (fun h => ?_) (fun h => ?_)) <;> (try simp only [decide_eq_true_eq, decide_eq_false_iff_not, ne_eq, Decidable.not_not, Int.not_lt, Int.not_le, Bool.not_eq_true', Bool.not_eq_false'] at h) <;> (try simp (disch := omega) only [w64] at h) <;> (try (exfalso; first | omega | exact h True.intro | (simp only [and_self, not_true_eq_false] at h; done) | (simp only [beq_self_eq_true, Bool.true_eq_false, reduceCtorEq] at h; done)))) | (with_reducible intro hz; (try exact absurd hz (Nat.succ_ne_zero _)))))
      · obtain rfl : i = m := by omega
        have hM1 := vfM_yes hL hM hp
        obtain ⟨⟨nm, b, u, up⟩, ha⟩ := get_some (l := seg R a i) (i := 0) (by omega)
        obtain ⟨v, hv⟩ := get_some (l := seg l s i) (i := 0) (by omega)
        have hg := allR_at hR ha
        have hvb := are_all hA hv
        have e0 : (R[a + Int.toNat 0]?).getD ([], 0, 0, false) = (nm, b, u, up) := by rw [show a + Int.toNat 0 = a + 0 from rfl, (seg_get ha).1]; rfl
        (repeat' ((try (conv => whnf)); first | (with_reducible first | refine And.intro ?_ ?_ | refine WX.of ?_ | exact VC.mk rfl | exact True.intro | exact VC.mk ⟨rfl, fun e => e⟩ | exact VC.mk ⟨fun e => e, rfl⟩ | exact VC.mk (Nat.le_refl _) | exact drawOk_i (by decide +kernel) (by decide +kernel) (by decide +kernel)) | ((with_reducible refine VC.mk ?_); first | (dsimp only; done) | omega | (congr 1; (try simp (disch := omega) only [w64]); omega) | exact ⟨rfl, rfl⟩ | (refine ⟨?_, ?_, ?_⟩; assumption; assumption; omega) | (refine ⟨Nat.le_trans (Nat.mul_le_mul_left _ (m := 1000) ?_) ?_, ?_⟩; decide; omega; omega)) | with_reducible refine atL_p (by simpa using (seg_get ha).1) ?_ | with_reducible refine atL_p (by simpa using (seg_get hv).1) ?_ | with_reducible refine splitT ?_ | with_reducible refine splitF ?_ | ((with_reducible refine splitB.mk (fun h => ?_) (fun h => ?_)) <;> (try simp only [decide_eq_true_eq, decide_eq_false_iff_not, ne_eq, Decidable.not_not, Int.not_lt, Int.not_le, Bool.not_eq_true', Bool.not_eq_false'] at h) <;> (try simp (disch := omega) only [w64] at h) <;> (try (exfalso; first | omega | exact h True.intro | (simp only [and_self, not_true_eq_false] at h; done) | (simp only [beq_self_eq_true, Bool.true_eq_false, reduceCtorEq] at h; done)))) | (with_reducible intro hz; (try exact absurd hz (Nat.succ_ne_zero _)))))
        · exact ⟨⟨by have := (List.getElem?_eq_some_iff.1 (seg_get ha).1).1; simpa using this, by rw [e0]; exact hg, hvb⟩⟩
        · have hw0 : (vfW (seg R a i) (seg l s i))[0]? = some (spN b u v) := vfW_get ha hv
          have hB0 := hW _ (List.mem_of_getElem? hw0)
          have hm1 : mtN (vfW (seg R a i) (seg l s i)) 1 = some (spN b u v) := by rw [mtN_step (i := 0) hw0 hw0, if_pos (mt_self hB0).2, (mt_self hB0).1]
          refine loopW tabOk (E := [(80, s_allR), (71, s_l06List), (72, s_l06Span), (81, s_meet)]) ⟨ok_l06Valid, ok_l06List, ok_l06Span, ok_l01Meet, trivial⟩ [(13, [(6, 0)]), (17, [(0, 1), (13, 0), (13, 1)])] (σ := Nat × SpT) (fun z => [(0, .sl 0 a i y), (1, .sl 1 s i x), (4, .ptr 2 0 0), (8, .ptr 3 0 0), (9, .int .i64 z.1)]) (fun z => [.arr (.prod .str (.prod (.int .i16) (.prod (.int .i16) .bool))) R 4 wR, .arr (.int .i64) l 1 wr, .arr (.prod (.prod (.int .i64) (.int .i64)) (.prod (.int .i64) (.int .i64))) [((0, 0), 0, 0)] 0 true, .arr (.prod (.prod (.int .i64) (.int .i64)) (.prod (.int .i64) (.int .i64))) [z.2] 0 true]) (fun z => i - z.1) (fun z => (1 ≤ z.1 ∧ z.1 ≤ i) ∧ mtN (vfW (seg R a i) (seg l s i)) z.1 = some z.2) (1, spN b u v) ⟨⟨Nat.le_refl _, by dsimp only; omega⟩, hm1⟩ ?_ ?_
          · (repeat' ((try (conv => whnf)); first | (with_reducible first | refine And.intro ?_ ?_ | refine WX.of ?_ | exact VC.mk rfl | exact True.intro | exact VC.mk ⟨rfl, fun e => e⟩ | exact VC.mk ⟨fun e => e, rfl⟩ | exact VC.mk (Nat.le_refl _) | exact drawOk_i (by decide +kernel) (by decide +kernel) (by decide +kernel)) | ((with_reducible refine VC.mk ?_); first | (dsimp only; done) | omega | (congr 1; (try simp (disch := omega) only [w64]); omega) | exact ⟨rfl, rfl⟩ | (refine ⟨?_, ?_, ?_⟩; assumption; assumption; omega) | (refine ⟨Nat.le_trans (Nat.mul_le_mul_left _ (m := 1000) ?_) ?_, ?_⟩; decide; omega; omega)) | with_reducible refine splitT ?_ | with_reducible refine splitF ?_ | ((with_reducible refine splitB.mk (fun h => ?_) (fun h => ?_)) <;> (try simp only [decide_eq_true_eq, decide_eq_false_iff_not, ne_eq, Decidable.not_not, Int.not_lt, Int.not_le, Bool.not_eq_true', Bool.not_eq_false'] at h) <;> (try simp (disch := omega) only [w64] at h) <;> (try (exfalso; first | omega | exact h True.intro | (simp only [and_self, not_true_eq_false] at h; done) | (simp only [beq_self_eq_true, Bool.true_eq_false, reduceCtorEq] at h; done)))) | (with_reducible intro hz; (try exact absurd hz (Nat.succ_ne_zero _)))))
            all_goals exact ⟨by simp only [e0]; rfl⟩
          · intro ⟨k, ⟨⟨cp, cq⟩, cr, cs⟩⟩ ⟨⟨hk1, hk2⟩, hm⟩
            dsimp only at hk1 hk2 hm ⊢
            have hcB := spB_f (mtN_ok hW hm)
            by_cases hlt : k < i
            · obtain ⟨⟨nm', b', u', up'⟩, ha'⟩ := get_some (l := seg R a i) (i := k) (by omega)
              obtain ⟨v', hv'⟩ := get_some (l := seg l s i) (i := k) (by omega)
              have hg' := allR_at hR ha'
              have hvb' := are_all hA hv'
              have hag := (seg_get ha').1
              have e : (R[a + ((k : Nat) : Int).toNat]?).getD ([], 0, 0, false) = (nm', b', u', up') := by rw [Int.toNat_natCast, hag]; rfl
              have hwk : (vfW (seg R a i) (seg l s i))[k]? = some (spN b' u' v') := vfW_get ha' hv'
              have hwB := spB_f (hW _ (List.mem_of_getElem? hwk))
              have hst := mtN_step hm hwk
              (repeat' ((try (conv => whnf)); first | (with_reducible first | refine And.intro ?_ ?_ | refine WX.of ?_ | exact VC.mk rfl | exact True.intro | exact VC.mk ⟨rfl, fun e => e⟩ | exact VC.mk ⟨fun e => e, rfl⟩ | exact VC.mk (Nat.le_refl _) | exact drawOk_i (by decide +kernel) (by decide +kernel) (by decide +kernel)) | ((with_reducible refine VC.mk ?_); first | (dsimp only; done) | omega | (congr 1; (try simp (disch := omega) only [w64]); omega) | exact ⟨rfl, rfl⟩ | (refine ⟨?_, ?_, ?_⟩; assumption; assumption; omega) | (refine ⟨Nat.le_trans (Nat.mul_le_mul_left _ (m := 1000) ?_) ?_, ?_⟩; decide; omega; omega)) | with_reducible refine atL_i hv' ?_ | ((with_reducible refine VC.mk ?_); (refine ⟨?_, ?_, hvb'⟩); (have := (List.getElem?_eq_some_iff.1 hag).1; rw [Int.toNat_natCast]; exact this); (rw [e]; exact hg')) | ((with_reducible refine VC.mk ?_); (simp only [e]); exact ⟨⟨smF_ok hcB.1, smF_ok hcB.2.1⟩, smF_ok hwB.1, smF_ok hwB.2.1⟩) | with_reducible refine splitT ?_ | with_reducible refine splitF ?_ | ((with_reducible refine splitB.mk (fun h => ?_) (fun h => ?_)) <;> (try simp only [decide_eq_true_eq, decide_eq_false_iff_not, ne_eq, Decidable.not_not, Int.not_lt, Int.not_le, Bool.not_eq_true', Bool.not_eq_false'] at h) <;> (try simp (disch := omega) only [w64] at h) <;> (try (exfalso; first | omega | exact h True.intro | (simp only [and_self, not_true_eq_false] at h; done) | (simp only [beq_self_eq_true, Bool.true_eq_false, reduceCtorEq] at h; done)))) | (with_reducible intro hz; (try exact absurd hz (Nat.succ_ne_zero _)))))
              · simp only [e] at h
                have hk : mtOk ((cp, cq), cr, cs) (spN b' u' v') = false := decide_eq_false (Int.not_le.2 h)
                rw [hk, if_neg (by simp)] at hst
                have hnn : mtN (vfW (seg R a i) (seg l s i)) i = none := by have := mtN_none hst (i - (k + 1)); rwa [show k + 1 + (i - (k + 1)) = i by omega] at this
                have hc := vfC_8 hR hA h3' hM1 (by rw [hL]; exact hnn)
                exact ⟨by rw [vfV_e hc (by decide), hc]⟩
              · simp only [e] at h
                have hk : mtOk ((cp, cq), cr, cs) (spN b' u' v') = true := decide_eq_true h
                rw [hk, if_pos rfl] at hst
                refine ⟨(k + 1, mtS ((cp, cq), cr, cs) (spN b' u' v')), by dsimp only; omega, ⟨⟨by dsimp only; omega, hlt⟩, hst⟩, ?_⟩
                (repeat' ((try (conv => whnf)); first | (with_reducible first | refine And.intro ?_ ?_ | refine WX.of ?_ | exact VC.mk rfl | exact True.intro | exact VC.mk ⟨rfl, fun e => e⟩ | exact VC.mk ⟨fun e => e, rfl⟩ | exact VC.mk (Nat.le_refl _) | exact drawOk_i (by decide +kernel) (by decide +kernel) (by decide +kernel)) | ((with_reducible refine VC.mk ?_); first | (dsimp only; done) | omega | (congr 1; (try simp (disch := omega) only [w64]); omega) | exact ⟨rfl, rfl⟩ | (refine ⟨?_, ?_, ?_⟩; assumption; assumption; omega) | (refine ⟨Nat.le_trans (Nat.mul_le_mul_left _ (m := 1000) ?_) ?_, ?_⟩; decide; omega; omega)) | with_reducible refine splitT ?_ | with_reducible refine splitF ?_ | ((with_reducible refine splitB.mk (fun h => ?_) (fun h => ?_)) <;> (try simp only [decide_eq_true_eq, decide_eq_false_iff_not, ne_eq, Decidable.not_not, Int.not_lt, Int.not_le, Bool.not_eq_true', Bool.not_eq_false'] at h) <;> (try simp (disch := omega) only [w64] at h) <;> (try (exfalso; first | omega | exact h True.intro | (simp only [and_self, not_true_eq_false] at h; done) | (simp only [beq_self_eq_true, Bool.true_eq_false, reduceCtorEq] at h; done)))) | (with_reducible intro hz; (try exact absurd hz (Nat.succ_ne_zero _)))))
                all_goals exact ⟨by simp only [e]; rfl⟩
            · obtain rfl : k = i := by omega
              have hc := vfC_0 hR hA h3' hM1 (by rw [hL]; exact hm)
              rw [hc.1, hc.2]
              (repeat' ((try (conv => whnf)); first | (with_reducible first | refine And.intro ?_ ?_ | refine WX.of ?_ | exact VC.mk rfl | exact True.intro | exact VC.mk ⟨rfl, fun e => e⟩ | exact VC.mk ⟨fun e => e, rfl⟩ | exact VC.mk (Nat.le_refl _) | exact drawOk_i (by decide +kernel) (by decide +kernel) (by decide +kernel)) | ((with_reducible refine VC.mk ?_); first | (dsimp only; done) | omega | (congr 1; (try simp (disch := omega) only [w64]); omega) | exact ⟨rfl, rfl⟩ | (refine ⟨?_, ?_, ?_⟩; assumption; assumption; omega) | (refine ⟨Nat.le_trans (Nat.mul_le_mul_left _ (m := 1000) ?_) ?_, ?_⟩; decide; omega; omega)) | with_reducible refine splitT ?_ | with_reducible refine splitF ?_ | ((with_reducible refine splitB.mk (fun h => ?_) (fun h => ?_)) <;> (try simp only [decide_eq_true_eq, decide_eq_false_iff_not, ne_eq, Decidable.not_not, Int.not_lt, Int.not_le, Bool.not_eq_true', Bool.not_eq_false'] at h) <;> (try simp (disch := omega) only [w64] at h) <;> (try (exfalso; first | omega | exact h True.intro | (simp only [and_self, not_true_eq_false] at h; done) | (simp only [beq_self_eq_true, Bool.true_eq_false, reduceCtorEq] at h; done)))) | (with_reducible intro hz; (try exact absurd hz (Nat.succ_ne_zero _)))))
theorem law_valueFrom {c1 c3 : Bool} {n1 n3 : Nat} {l1 : List (List UInt8 × Int × Int × Bool)} {l3 : List Int} (hn1 : n1 ≤ l1.length) (hc1 : c1 = true → l1 = []) (ho1 : ∀ y ∈ l1, ET.Ok (.prod .str (.prod (.int .i16) (.prod (.int .i16) .bool))) y) (hz1 : l1.length ≤ 9223372036854775807) (hn3 : n3 ≤ l3.length) (hc3 : c3 = true → l3 = []) (ho3 : ∀ y ∈ l3, ET.Ok (.int .i64) y) (hz3 : l3.length ≤ 9223372036854775807) : RunsS Try.prog 8 [.opt c1 0 n1 0, .opt c3 1 n3 0] [.arrO (.prod .str (.prod (.int .i16) (.prod (.int .i16) .bool))) l1 4, .arrO (.int .i64) l3 1] (.bool true) [.arrO (.prod .str (.prod (.int .i16) (.prod (.int .i16) .bool))) l1 4, .arrO (.int .i64) l3 1] := by
  have hK : (seg l1 0 n1).length = n1 := seg_len (by omega)
  have hM : (seg l3 0 n3).length = n3 := seg_len (by omega)
  have hb1 : ∀ (j : Nat) (a : RdT), l1[j]? = some a → a.1.length ≤ 9223372036854775807 := fun j a ha => (ho1 a (List.mem_of_getElem? ha)).1
  have htt : ∀ (j : Nat) (a : RdT), (seg l1 0 n1)[j]? = some a → a.1.length ≤ tot (fun a : RdT => a.1.length) (seg l1 0 n1) := fun j a ha => tot_at (f := fun a : RdT => a.1.length) ha
  have hrg : tot (fun a : RdT => a.1.length) (seg l1 0 n1) ≤ 1048576 → ∀ (j : Nat) (r : RdT), (seg l1 0 n1)[j]? = some r → rdrGood r := fun hts j a ha => by
    have h1 := ho1 a (List.mem_of_getElem? (seg_get ha).1)
    have h2 := ok_i16 h1.2.1
    have h3 := ok_i16 h1.2.2.1
    have h4 := htt j a ha
    unfold rdrGood
    exact ⟨by omega, ⟨h2.1, by omega⟩, h3.1, by omega⟩
  refine funW tabOk (E := [(34, s_szReaderS), (24, s_toInt64S), (36, s_toReaderS), (39, s_vf), (40, s_vf), (18, s_eqInt64S), (41, s_eqSpan), (38, s_eqReaderS)]) ⟨ok_szReaderS, ok_toInt64S, ok_toReaderS, ok_ValueFromS, ok_ValueFromI, ok_eqInt64S, ok_eqSpan, ok_eqReaderS, trivial⟩ [] (k := 2) (fn := Try.f8) rfl rfl rfl rfl rfl rfl ?_
  (repeat' ((try (conv => whnf)); first | (with_reducible first | refine And.intro ?_ ?_ | refine WX.of ?_ | exact VC.mk rfl | exact True.intro | exact VC.mk ⟨rfl, fun e => e⟩ | exact VC.mk ⟨fun e => e, rfl⟩ | exact VC.mk (Nat.le_refl _) | exact drawOk_i (by decide +kernel) (by decide +kernel) (by decide +kernel)) | ((with_reducible refine VC.mk ?_); first | (dsimp only; done) | omega | (congr 1; (try simp (disch := omega) only [w64]); omega) | exact ⟨rfl, rfl⟩ | (refine ⟨?_, ?_, ?_⟩; assumption; assumption; omega) | (refine ⟨Nat.le_trans (Nat.mul_le_mul_left _ (m := 1000) ?_) ?_, ?_⟩; decide; omega; omega)) | ((with_reducible refine VC.mk ?_); (refine ⟨⟨?_, ?_, ?_⟩, ?_, ?_⟩); (omega); (omega); (exact hrg (by omega)); (omega); (omega)) | ((with_reducible refine VC.mk ?_); (refine ⟨?_, ⟨?_, ?_⟩, ?_, ?_⟩); (omega); (assumption); (assumption); (omega); (assumption)) | with_reducible refine splitT ?_ | with_reducible refine splitF ?_ | ((with_reducible refine splitB.mk (fun h => ?_) (fun h => ?_)) <;> (try simp only [decide_eq_true_eq, decide_eq_false_iff_not, ne_eq, Decidable.not_not, Int.not_lt, Int.not_le, Bool.not_eq_true', Bool.not_eq_false'] at h) <;> (try simp (disch := omega) only [w64] at h) <;> (try (exfalso; first | omega | exact h True.intro | (simp only [and_self, not_true_eq_false] at h; done) | (simp only [beq_self_eq_true, Bool.true_eq_false, reduceCtorEq] at h; done)))) | (with_reducible intro hz; (try exact absurd hz (Nat.succ_ne_zero _)))))
  all_goals (simp at h)
end Go.Proofs.Ytpnlbacfofdibaa.Eng
