/- cr: lemmas for the proof, no conditions of their own. -/
import Derived.Test.YtpnlbacfofdibaaXcorr
set_option linter.unusedVariables false
set_option linter.unusedSimpArgs false
namespace Go.Proofs.Ytpnlbacfofdibaa.Eng
open Go Go.RowKit
set_option maxRecDepth 100000
/-- The spans of readings. -/
def crV (b u : Int) (L : List Int) : List ((Int × Int) × Int × Int) := L.map (spN b u)
def mltB (u : Int) (L : List Int) : Bool := L.all fun n => decide (n.tmod u = 0)
def crC (nm : List UInt8) (b u : Int) (L : List Int) : Int := if rdrB nm b u = true then (if areB L = true then (if mltB u L = true then 0 else 4) else 2) else 1
theorem cr_len {b u : Int} {L : List Int} : (crV b u L).length = L.length := by simp [crV]
theorem cr_get {b u : Int} {L : List Int} {i : Nat} {a : Int} (h : L[i]? = some a) : (crV b u L)[i]? = some (spN b u a) := by
  unfold crV; rw [List.getElem?_map, h]; rfl
theorem cr_0 {nm : List UInt8} {b u : Int} {L : List Int} (h : crC nm b u L = 0) : rdrB nm b u = true ∧ areB L = true ∧ mltB u L = true := by
  unfold crC at h
  split at h
  · split at h
    · split at h
      · exact ⟨by assumption, by assumption, by assumption⟩
      · simp at h
    · simp at h
  · simp at h
theorem mul_at {u : Int} {L : List Int} (h : mltB u L = true) {i : Nat} {a : Int} (ha : L[i]? = some a) : a.tmod u = 0 := by
  unfold mltB at h
  rw [List.all_eq_true] at h
  exact of_decide_eq_true (h a (List.mem_of_getElem? ha))
theorem mul_no {u : Int} {L : List Int} {i : Nat} {a : Int} (ha : L[i]? = some a) (h : ¬ a.tmod u = 0) : mltB u L = false := all_no ha (decide_eq_false h)
def s_cr1 : Spec := fun args S => match args, S with
  | [.agg [.str nm, .int .i16 b, .int .i16 u, .bool up], .sl 0 s n x], [.arr (.int .i64) l 1 wr] => ⟨(s + n ≤ l.length ∧ n ≤ 1048576) ∧ (nm.length ≤ 9223372036854775807 ∧ (-32768 ≤ b ∧ b < 32768) ∧ -32768 ≤ u ∧ u < 32768) ∧ crC nm b u (seg l s n) = 0, .tup [.sl 1 0 n 0, .int .i64 0], [.arr (.int .i64) l 1 wr, .arr (.prod (.prod (.int .i64) (.int .i64)) (.prod (.int .i64) (.int .i64))) (crV b u (seg l s n)) 4 true]⟩
  | _, _ => noSpec
def s_cr0 : Spec := fun args S => match args, S with
  | [.agg [.str nm, .int .i16 b, .int .i16 u, .bool up], .sl 0 s n x], [.arr (.int .i64) l 1 wr] => ⟨(s + n ≤ l.length ∧ n ≤ 1048576) ∧ (nm.length ≤ 9223372036854775807 ∧ (-32768 ≤ b ∧ b < 32768) ∧ -32768 ≤ u ∧ u < 32768) ∧ crC nm b u (seg l s n) ≠ 0, .tup [.nils, .int .i64 (crC nm b u (seg l s n))], [.arr (.int .i64) l 1 wr]⟩
  | _, _ => noSpec
def s_cr0S : Spec := fun args S => match args, S with
  | [.agg [.str nm, .int .i16 b, .int .i16 u, .bool up], .sl 0 s n x], [.arr (.int .i64) l 1 wr] => ⟨(s + n ≤ l.length ∧ n ≤ 1048576) ∧ (nm.length ≤ 9223372036854775807 ∧ (-32768 ≤ b ∧ b < 32768) ∧ -32768 ≤ u ∧ u < 32768) ∧ crC nm b u (seg l s n) ≠ 0, .tup [.sl 1 0 0 0, .int .i64 (crC nm b u (seg l s n))], [.arr (.int .i64) l 1 wr, .arr (.prod (.prod (.int .i64) (.int .i64)) (.prod (.int .i64) (.int .i64))) [] 4 true]⟩
  | _, _ => noSpec
theorem ok_CorrectReadingsI1 : SpecOk Try.prog 30 s_cr1 := by
  intro args S h; unfold s_cr1 at h ⊢; (split at h <;> first | exact False.elim h | skip)
  dsimp only at h ⊢
  rename_i nm b u up s n x l wr
  obtain ⟨⟨h1, h2⟩, h3, hc⟩ := h
  obtain ⟨hr, hA, hm⟩ := cr_0 hc
  have hr' : rdrOk (nm, b, u, up) = true := hr
  have hA' : areCode (seg l s n) = 0 := by unfold areCode; rw [if_pos hA]
  have hgb : gB b u := by simp only [rdrB, Bool.and_eq_true] at hr; exact gB_iff.1 hr.2
  have hgq := hgb
  unfold gB at hgq
  have hL := seg_len h1
  have hn := are_len hA
  rw [hL] at hn
  refine funW tabOk (E := [(60, s_vReader), (73, s_are), (74, s_corrected)]) ⟨ok_ValidReader, ok_areReadings, ok_corrected, trivial⟩ [] (k := 1) (fn := Try.f30) rfl rfl rfl rfl rfl rfl ?_
  (repeat' ((try (conv => whnf)); first | (with_reducible first | refine And.intro ?_ ?_ | refine WX.of ?_ | exact VC.mk rfl | exact True.intro | exact VC.mk ⟨rfl, fun e => e⟩ | exact VC.mk ⟨fun e => e, rfl⟩ | exact VC.mk (Nat.le_refl _) | exact drawOk_i (by decide +kernel) (by decide +kernel) (by decide +kernel)) | ((with_reducible refine VC.mk ?_); first | (dsimp only; done) | omega | (congr 1; (try simp (disch := omega) only [w64]); omega) | exact ⟨rfl, rfl⟩ | (refine ⟨?_, ?_, ?_⟩; assumption; assumption; omega) | (refine ⟨Nat.le_trans (Nat.mul_le_mul_left _ (m := 1000) ?_) ?_, ?_⟩; decide; omega; omega)) | ((with_reducible refine splitT_of ?_ ?_); (focus (simp only [hr, hA, Bool.not_true, Bool.not_false, decide_true, decide_false]; done))) | ((with_reducible refine splitF_of ?_ ?_); (focus (simp only [hr, hA, Bool.not_true, Bool.not_false, decide_true, decide_false]; done))) | with_reducible refine splitT ?_ | with_reducible refine splitF ?_ | ((with_reducible refine splitB.mk (fun h => ?_) (fun h => ?_)) <;> (try simp only [decide_eq_true_eq, decide_eq_false_iff_not, ne_eq, Decidable.not_not, Int.not_lt, Int.not_le, Bool.not_eq_true', Bool.not_eq_false'] at h) <;> (try simp (disch := omega) only [w64] at h) <;> (try (exfalso; first | omega | exact h True.intro | (simp only [and_self, not_true_eq_false] at h; done) | (simp only [beq_self_eq_true, Bool.true_eq_false, reduceCtorEq] at h; done)))) | (with_reducible intro hz; (try exact absurd hz (Nat.succ_ne_zero _)))))
  refine loopW tabOk (E := [(60, s_vReader), (73, s_are), (74, s_corrected)]) ⟨ok_ValidReader, ok_areReadings, ok_corrected, trivial⟩ [] (σ := Nat) (fun i => [(2, .ptr 1 0 0), (6, .ptr 2 0 0), (7, .sl 3 0 i 0), (23, .sl 0 s n x), (24, .int .i64 n), (25, .int .i64 i)]) (fun i => [.arr (.int .i64) l 1 wr, .arr (.prod .str (.prod (.int .i16) (.prod (.int .i16) .bool))) [(nm, b, u, up)] 0 true, .arr .bool [false] 0 true, .arr (.prod (.prod (.int .i64) (.int .i64)) (.prod (.int .i64) (.int .i64))) ((crV b u (seg l s n)).take i) 4 true]) (fun i => n - i) (fun i => i ≤ n) 0 (Nat.zero_le _) ?_ ?_
  · (repeat' ((try (conv => whnf)); first | (with_reducible first | refine And.intro ?_ ?_ | refine WX.of ?_ | exact VC.mk rfl | exact True.intro | exact VC.mk ⟨rfl, fun e => e⟩ | exact VC.mk ⟨fun e => e, rfl⟩ | exact VC.mk (Nat.le_refl _) | exact drawOk_i (by decide +kernel) (by decide +kernel) (by decide +kernel)) | ((with_reducible refine VC.mk ?_); first | (dsimp only; done) | omega | (congr 1; (try simp (disch := omega) only [w64]); omega) | exact ⟨rfl, rfl⟩ | (refine ⟨?_, ?_, ?_⟩; assumption; assumption; omega) | (refine ⟨Nat.le_trans (Nat.mul_le_mul_left _ (m := 1000) ?_) ?_, ?_⟩; decide; omega; omega)) | with_reducible refine splitT ?_ | with_reducible refine splitF ?_ | ((with_reducible refine splitB.mk (fun h => ?_) (fun h => ?_)) <;> (try simp only [decide_eq_true_eq, decide_eq_false_iff_not, ne_eq, Decidable.not_not, Int.not_lt, Int.not_le, Bool.not_eq_true', Bool.not_eq_false'] at h) <;> (try simp (disch := omega) only [w64] at h) <;> (try (exfalso; first | omega | exact h True.intro | (simp only [and_self, not_true_eq_false] at h; done) | (simp only [beq_self_eq_true, Bool.true_eq_false, reduceCtorEq] at h; done)))) | (with_reducible intro hz; (try exact absurd hz (Nat.succ_ne_zero _)))))
  · intro i hi
    have hlen : ((crV b u (seg l s n)).take i).length = i := by rw [List.length_take, cr_len]; omega
    by_cases hlt : i < n
    · obtain ⟨a, ha⟩ := get_some (l := seg l s n) (i := i) (by omega)
      have hba := are_all hA ha
      have hta := mul_at hm ha
      have htl := tmod_lt (a := a) (b := u) (by omega)
      (repeat' ((try (conv => whnf)); first | (with_reducible first | refine And.intro ?_ ?_ | refine WX.of ?_ | exact VC.mk rfl | exact True.intro | exact VC.mk ⟨rfl, fun e => e⟩ | exact VC.mk ⟨fun e => e, rfl⟩ | exact VC.mk (Nat.le_refl _) | exact drawOk_i (by decide +kernel) (by decide +kernel) (by decide +kernel)) | ((with_reducible refine VC.mk ?_); first | (dsimp only; done) | omega | (congr 1; (try simp (disch := omega) only [w64]); omega) | exact ⟨rfl, rfl⟩ | (refine ⟨?_, ?_, ?_⟩; assumption; assumption; omega) | (refine ⟨Nat.le_trans (Nat.mul_le_mul_left _ (m := 1000) ?_) ?_, ?_⟩; decide; omega; omega)) | refine atL_i ha ?_ | exact VC.mk ⟨rfl, hgb, hba⟩ | ((with_reducible refine splitT_of ?_ ?_); (focus (simp only [hta, Bool.not_true, Bool.not_false, decide_true, decide_false]; done))) | ((with_reducible refine splitF_of ?_ ?_); (focus (simp only [hta, Bool.not_true, Bool.not_false, decide_true, decide_false]; done))) | with_reducible refine splitT ?_ | with_reducible refine splitF ?_ | ((with_reducible refine splitB.mk (fun h => ?_) (fun h => ?_)) <;> (try simp only [decide_eq_true_eq, decide_eq_false_iff_not, ne_eq, Decidable.not_not, Int.not_lt, Int.not_le, Bool.not_eq_true', Bool.not_eq_false'] at h) <;> (try simp (disch := omega) only [w64] at h) <;> (try (exfalso; first | omega | exact h True.intro | (simp only [and_self, not_true_eq_false] at h; done) | (simp only [beq_self_eq_true, Bool.true_eq_false, reduceCtorEq] at h; done)))) | (with_reducible intro hz; (try exact absurd hz (Nat.succ_ne_zero _)))))
      refine ⟨i + 1, by omega, hlt, ?_⟩
      (repeat' ((try (conv => whnf)); first | (with_reducible first | refine And.intro ?_ ?_ | refine WX.of ?_ | exact VC.mk rfl | exact True.intro | exact VC.mk ⟨rfl, fun e => e⟩ | exact VC.mk ⟨fun e => e, rfl⟩ | exact VC.mk (Nat.le_refl _) | exact drawOk_i (by decide +kernel) (by decide +kernel) (by decide +kernel)) | ((with_reducible refine VC.mk ?_); first | (dsimp only; done) | omega | (congr 1; (try simp (disch := omega) only [w64]); omega) | exact ⟨rfl, rfl⟩ | (refine ⟨?_, ?_, ?_⟩; assumption; assumption; omega) | (refine ⟨Nat.le_trans (Nat.mul_le_mul_left _ (m := 1000) ?_) ?_, ?_⟩; decide; omega; omega)) | with_reducible refine splitT ?_ | with_reducible refine splitF ?_ | ((with_reducible refine splitB.mk (fun h => ?_) (fun h => ?_)) <;> (try simp only [decide_eq_true_eq, decide_eq_false_iff_not, ne_eq, Decidable.not_not, Int.not_lt, Int.not_le, Bool.not_eq_true', Bool.not_eq_false'] at h) <;> (try simp (disch := omega) only [w64] at h) <;> (try (exfalso; first | omega | exact h True.intro | (simp only [and_self, not_true_eq_false] at h; done) | (simp only [beq_self_eq_true, Bool.true_eq_false, reduceCtorEq] at h; done)))) | (with_reducible intro hz; (try exact absurd hz (Nat.succ_ne_zero _)))))
      exact ⟨app_take (cr_get ha)⟩
    · obtain rfl : i = n := by omega
      rw [List.take_of_length_le (by rw [cr_len]; omega)]
      (repeat' ((try (conv => whnf)); first | (with_reducible first | refine And.intro ?_ ?_ | refine WX.of ?_ | exact VC.mk rfl | exact True.intro | exact VC.mk ⟨rfl, fun e => e⟩ | exact VC.mk ⟨fun e => e, rfl⟩ | exact VC.mk (Nat.le_refl _) | exact drawOk_i (by decide +kernel) (by decide +kernel) (by decide +kernel)) | ((with_reducible refine VC.mk ?_); first | (dsimp only; done) | omega | (congr 1; (try simp (disch := omega) only [w64]); omega) | exact ⟨rfl, rfl⟩ | (refine ⟨?_, ?_, ?_⟩; assumption; assumption; omega) | (refine ⟨Nat.le_trans (Nat.mul_le_mul_left _ (m := 1000) ?_) ?_, ?_⟩; decide; omega; omega)) | with_reducible refine splitT ?_ | with_reducible refine splitF ?_ | ((with_reducible refine splitB.mk (fun h => ?_) (fun h => ?_)) <;> (try simp only [decide_eq_true_eq, decide_eq_false_iff_not, ne_eq, Decidable.not_not, Int.not_lt, Int.not_le, Bool.not_eq_true', Bool.not_eq_false'] at h) <;> (try simp (disch := omega) only [w64] at h) <;> (try (exfalso; first | omega | exact h True.intro | (simp only [and_self, not_true_eq_false] at h; done) | (simp only [beq_self_eq_true, Bool.true_eq_false, reduceCtorEq] at h; done)))) | (with_reducible intro hz; (try exact absurd hz (Nat.succ_ne_zero _)))))
theorem ok_CorrectReadingsS1 : SpecOk Try.prog 29 s_cr1 := by
  intro args S h; unfold s_cr1 at h ⊢; (split at h <;> first | exact False.elim h | skip)
  dsimp only at h ⊢
  rename_i nm b u up s n x l wr
  obtain ⟨⟨h1, h2⟩, h3, hc⟩ := h
  obtain ⟨hr, hA, hm⟩ := cr_0 hc
  have hr' : rdrOk (nm, b, u, up) = true := hr
  have hA' : areCode (seg l s n) = 0 := by unfold areCode; rw [if_pos hA]
  have hgb : gB b u := by simp only [rdrB, Bool.and_eq_true] at hr; exact gB_iff.1 hr.2
  have hgq := hgb
  unfold gB at hgq
  have hL := seg_len h1
  have hn := are_len hA
  rw [hL] at hn
  have hro : ∀ (j : Nat) (a : List UInt8 × Int × Int × Bool), ([(nm, b, u, up)] : List (List UInt8 × Int × Int × Bool))[j]? = some a → rdrGood a := fun j a ha => by
    match j with
    | 0 => obtain rfl := Option.some.inj ha; exact h3
    | j + 1 => simp at ha
  refine funW tabOk (E := [(53, s_l06Ok), (71, s_l06List), (72, s_l06Span)]) ⟨ok_l06Ok, ok_l06List, ok_l06Span, trivial⟩ [] (k := 1) (fn := Try.f29) rfl rfl rfl rfl rfl rfl ?_
  (repeat' ((try (conv => whnf)); first | (with_reducible first | refine And.intro ?_ ?_ | refine WX.of ?_ | exact VC.mk rfl | exact True.intro | exact VC.mk ⟨rfl, fun e => e⟩ | exact VC.mk ⟨fun e => e, rfl⟩ | exact VC.mk (Nat.le_refl _) | exact drawOk_i (by decide +kernel) (by decide +kernel) (by decide +kernel)) | ((with_reducible refine VC.mk ?_); first | (dsimp only; done) | omega | (congr 1; (try simp (disch := omega) only [w64]); omega) | exact ⟨rfl, rfl⟩ | (refine ⟨?_, ?_, ?_⟩; assumption; assumption; omega) | (refine ⟨Nat.le_trans (Nat.mul_le_mul_left _ (m := 1000) ?_) ?_, ?_⟩; decide; omega; omega)) | exact VC.mk ⟨Nat.zero_lt_one, hro⟩ | ((with_reducible refine splitT_of ?_ ?_); (focus (simp only [hr', hA', List.getElem?_cons_zero, Option.getD_some, Bool.not_true, Bool.not_false, decide_true, decide_false]; done))) | ((with_reducible refine splitF_of ?_ ?_); (focus (simp only [hr', hA', List.getElem?_cons_zero, Option.getD_some, Bool.not_true, Bool.not_false, decide_true, decide_false]; done))) | with_reducible refine splitT ?_ | with_reducible refine splitF ?_ | ((with_reducible refine splitB.mk (fun h => ?_) (fun h => ?_)) <;> (try simp only [decide_eq_true_eq, decide_eq_false_iff_not, ne_eq, Decidable.not_not, Int.not_lt, Int.not_le, Bool.not_eq_true', Bool.not_eq_false'] at h) <;> (try simp (disch := omega) only [w64] at h) <;> (try (exfalso; first | omega | exact h True.intro | (simp only [and_self, not_true_eq_false] at h; done) | (simp only [beq_self_eq_true, Bool.true_eq_false, reduceCtorEq] at h; done)))) | (with_reducible intro hz; (try exact absurd hz (Nat.succ_ne_zero _)))))
  refine loopW tabOk (E := [(53, s_l06Ok), (71, s_l06List), (72, s_l06Span)]) ⟨ok_l06Ok, ok_l06List, ok_l06Span, trivial⟩ [] (σ := Nat) (fun i => [(1, .sl 0 s n x), (2, .ptr 1 0 0), (7, .sl 2 0 i 0), (8, .int .i64 i)]) (fun i => [.arr (.int .i64) l 1 wr, .arr (.prod .str (.prod (.int .i16) (.prod (.int .i16) .bool))) [(nm, b, u, up)] 0 true, .arr (.prod (.prod (.int .i64) (.int .i64)) (.prod (.int .i64) (.int .i64))) ((crV b u (seg l s n)).take i) 4 true]) (fun i => n - i) (fun i => i ≤ n) 0 (Nat.zero_le _) ?_ ?_
  · (repeat' ((try (conv => whnf)); first | (with_reducible first | refine And.intro ?_ ?_ | refine WX.of ?_ | exact VC.mk rfl | exact True.intro | exact VC.mk ⟨rfl, fun e => e⟩ | exact VC.mk ⟨fun e => e, rfl⟩ | exact VC.mk (Nat.le_refl _) | exact drawOk_i (by decide +kernel) (by decide +kernel) (by decide +kernel)) | ((with_reducible refine VC.mk ?_); first | (dsimp only; done) | omega | (congr 1; (try simp (disch := omega) only [w64]); omega) | exact ⟨rfl, rfl⟩ | (refine ⟨?_, ?_, ?_⟩; assumption; assumption; omega) | (refine ⟨Nat.le_trans (Nat.mul_le_mul_left _ (m := 1000) ?_) ?_, ?_⟩; decide; omega; omega)) | with_reducible refine splitT ?_ | with_reducible refine splitF ?_ | ((with_reducible refine splitB.mk (fun h => ?_) (fun h => ?_)) <;> (try simp only [decide_eq_true_eq, decide_eq_false_iff_not, ne_eq, Decidable.not_not, Int.not_lt, Int.not_le, Bool.not_eq_true', Bool.not_eq_false'] at h) <;> (try simp (disch := omega) only [w64] at h) <;> (try (exfalso; first | omega | exact h True.intro | (simp only [and_self, not_true_eq_false] at h; done) | (simp only [beq_self_eq_true, Bool.true_eq_false, reduceCtorEq] at h; done)))) | (with_reducible intro hz; (try exact absurd hz (Nat.succ_ne_zero _)))))
  · intro i hi
    have hlen : ((crV b u (seg l s n)).take i).length = i := by rw [List.length_take, cr_len]; omega
    by_cases hlt : i < n
    · obtain ⟨a, ha⟩ := get_some (l := seg l s n) (i := i) (by omega)
      have hba := are_all hA ha
      have hta := mul_at hm ha
      have htl := tmod_lt (a := a) (b := u) (by omega)
      (repeat' ((try (conv => whnf)); first | (with_reducible first | refine And.intro ?_ ?_ | refine WX.of ?_ | exact VC.mk rfl | exact True.intro | exact VC.mk ⟨rfl, fun e => e⟩ | exact VC.mk ⟨fun e => e, rfl⟩ | exact VC.mk (Nat.le_refl _) | exact drawOk_i (by decide +kernel) (by decide +kernel) (by decide +kernel)) | ((with_reducible refine VC.mk ?_); first | (dsimp only; done) | omega | (congr 1; (try simp (disch := omega) only [w64]); omega) | exact ⟨rfl, rfl⟩ | (refine ⟨?_, ?_, ?_⟩; assumption; assumption; omega) | (refine ⟨Nat.le_trans (Nat.mul_le_mul_left _ (m := 1000) ?_) ?_, ?_⟩; decide; omega; omega)) | refine atL_i ha ?_ | exact VC.mk ⟨Nat.zero_lt_one, hgb, hba⟩ | ((with_reducible refine splitT_of ?_ ?_); (focus (simp only [hta, Bool.not_true, Bool.not_false, decide_true, decide_false]; done))) | ((with_reducible refine splitF_of ?_ ?_); (focus (simp only [hta, Bool.not_true, Bool.not_false, decide_true, decide_false]; done))) | with_reducible refine splitT ?_ | with_reducible refine splitF ?_ | ((with_reducible refine splitB.mk (fun h => ?_) (fun h => ?_)) <;> (try simp only [decide_eq_true_eq, decide_eq_false_iff_not, ne_eq, Decidable.not_not, Int.not_lt, Int.not_le, Bool.not_eq_true', Bool.not_eq_false'] at h) <;> (try simp (disch := omega) only [w64] at h) <;> (try (exfalso; first | omega | exact h True.intro | (simp only [and_self, not_true_eq_false] at h; done) | (simp only [beq_self_eq_true, Bool.true_eq_false, reduceCtorEq] at h; done)))) | (with_reducible intro hz; (try exact absurd hz (Nat.succ_ne_zero _)))))
      refine ⟨i + 1, by omega, hlt, ?_⟩
      (repeat' ((try (conv => whnf)); first | (with_reducible first | refine And.intro ?_ ?_ | refine WX.of ?_ | exact VC.mk rfl | exact True.intro | exact VC.mk ⟨rfl, fun e => e⟩ | exact VC.mk ⟨fun e => e, rfl⟩ | exact VC.mk (Nat.le_refl _) | exact drawOk_i (by decide +kernel) (by decide +kernel) (by decide +kernel)) | ((with_reducible refine VC.mk ?_); first | (dsimp only; done) | omega | (congr 1; (try simp (disch := omega) only [w64]); omega) | exact ⟨rfl, rfl⟩ | (refine ⟨?_, ?_, ?_⟩; assumption; assumption; omega) | (refine ⟨Nat.le_trans (Nat.mul_le_mul_left _ (m := 1000) ?_) ?_, ?_⟩; decide; omega; omega)) | with_reducible refine splitT ?_ | with_reducible refine splitF ?_ | ((with_reducible refine splitB.mk (fun h => ?_) (fun h => ?_)) <;> (try simp only [decide_eq_true_eq, decide_eq_false_iff_not, ne_eq, Decidable.not_not, Int.not_lt, Int.not_le, Bool.not_eq_true', Bool.not_eq_false'] at h) <;> (try simp (disch := omega) only [w64] at h) <;> (try (exfalso; first | omega | exact h True.intro | (simp only [and_self, not_true_eq_false] at h; done) | (simp only [beq_self_eq_true, Bool.true_eq_false, reduceCtorEq] at h; done)))) | (with_reducible intro hz; (try exact absurd hz (Nat.succ_ne_zero _)))))
      exact ⟨app_take (cr_get ha)⟩
    · obtain rfl : i = n := by omega
      rw [List.take_of_length_le (by rw [cr_len]; omega)]
      (repeat' ((try (conv => whnf)); first | (with_reducible first | refine And.intro ?_ ?_ | refine WX.of ?_ | exact VC.mk rfl | exact True.intro | exact VC.mk ⟨rfl, fun e => e⟩ | exact VC.mk ⟨fun e => e, rfl⟩ | exact VC.mk (Nat.le_refl _) | exact drawOk_i (by decide +kernel) (by decide +kernel) (by decide +kernel)) | ((with_reducible refine VC.mk ?_); first | (dsimp only; done) | omega | (congr 1; (try simp (disch := omega) only [w64]); omega) | exact ⟨rfl, rfl⟩ | (refine ⟨?_, ?_, ?_⟩; assumption; assumption; omega) | (refine ⟨Nat.le_trans (Nat.mul_le_mul_left _ (m := 1000) ?_) ?_, ?_⟩; decide; omega; omega)) | with_reducible refine splitT ?_ | with_reducible refine splitF ?_ | ((with_reducible refine splitB.mk (fun h => ?_) (fun h => ?_)) <;> (try simp only [decide_eq_true_eq, decide_eq_false_iff_not, ne_eq, Decidable.not_not, Int.not_lt, Int.not_le, Bool.not_eq_true', Bool.not_eq_false'] at h) <;> (try simp (disch := omega) only [w64] at h) <;> (try (exfalso; first | omega | exact h True.intro | (simp only [and_self, not_true_eq_false] at h; done) | (simp only [beq_self_eq_true, Bool.true_eq_false, reduceCtorEq] at h; done)))) | (with_reducible intro hz; (try exact absurd hz (Nat.succ_ne_zero _)))))
theorem ok_CorrectReadingsI0 : SpecOk Try.prog 30 s_cr0 := by
  intro args S h; unfold s_cr0 at h ⊢; (split at h <;> first | exact False.elim h | skip)
  dsimp only at h ⊢
  rename_i nm b u up s n x l wr
  obtain ⟨⟨h1, h2⟩, h3, hc⟩ := h
  have hL := seg_len h1
  refine funW tabOk (E := [(60, s_vReader), (73, s_are), (74, s_corrected)]) ⟨ok_ValidReader, ok_areReadings, ok_corrected, trivial⟩ [] (k := 1) (fn := Try.f30) rfl rfl rfl rfl rfl rfl ?_
  (repeat' ((try (conv => whnf)); first | (with_reducible first | refine And.intro ?_ ?_ | refine WX.of ?_ | exact VC.mk rfl | exact True.intro | exact VC.mk ⟨rfl, fun e => e⟩ | exact VC.mk ⟨fun e => e, rfl⟩ | exact VC.mk (Nat.le_refl _) | exact drawOk_i (by decide +kernel) (by decide +kernel) (by decide +kernel)) | ((with_reducible refine VC.mk ?_); first | (dsimp only; done) | omega | (congr 1; (try simp (disch := omega) only [w64]); omega) | exact ⟨rfl, rfl⟩ | (refine ⟨?_, ?_, ?_⟩; assumption; assumption; omega) | (refine ⟨Nat.le_trans (Nat.mul_le_mul_left _ (m := 1000) ?_) ?_, ?_⟩; decide; omega; omega)) | with_reducible refine splitT ?_ | with_reducible refine splitF ?_ | ((with_reducible refine splitB.mk (fun h => ?_) (fun h => ?_)) <;> (try simp only [decide_eq_true_eq, decide_eq_false_iff_not, ne_eq, Decidable.not_not, Int.not_lt, Int.not_le, Bool.not_eq_true', Bool.not_eq_false'] at h) <;> (try simp (disch := omega) only [w64] at h) <;> (try (exfalso; first | omega | exact h True.intro | (simp only [and_self, not_true_eq_false] at h; done) | (simp only [beq_self_eq_true, Bool.true_eq_false, reduceCtorEq] at h; done)))) | (with_reducible intro hz; (try exact absurd hz (Nat.succ_ne_zero _)))))
  rotate_left 2
  · rename_i hr
    have hr : rdrB nm b u = true := hr
    have hA : areB (seg l s n) = true := h
    have hgb : gB b u := by have hr' := hr; simp only [rdrB, Bool.and_eq_true] at hr'; exact gB_iff.1 hr'.2
    have hgq := hgb
    unfold gB at hgq
    have hn := are_len hA
    rw [hL] at hn
    refine loopW tabOk (E := [(60, s_vReader), (73, s_are), (74, s_corrected)]) ⟨ok_ValidReader, ok_areReadings, ok_corrected, trivial⟩ [] (σ := Nat) (fun i => [(2, .ptr 1 0 0), (6, .ptr 2 0 0), (7, .sl 3 0 i 0), (23, .sl 0 s n x), (24, .int .i64 n), (25, .int .i64 i)]) (fun i => [.arr (.int .i64) l 1 wr, .arr (.prod .str (.prod (.int .i16) (.prod (.int .i16) .bool))) [(nm, b, u, up)] 0 true, .arr .bool [false] 0 true, .arr (.prod (.prod (.int .i64) (.int .i64)) (.prod (.int .i64) (.int .i64))) ((crV b u (seg l s n)).take i) 4 true]) (fun i => n - i) (fun i => i ≤ n ∧ ∀ (j : Nat) a, j < i → (seg l s n)[j]? = some a → a.tmod u = 0) 0 ⟨Nat.zero_le _, fun j a hj => by omega⟩ ?_ ?_
    · (repeat' ((try (conv => whnf)); first | (with_reducible first | refine And.intro ?_ ?_ | refine WX.of ?_ | exact VC.mk rfl | exact True.intro | exact VC.mk ⟨rfl, fun e => e⟩ | exact VC.mk ⟨fun e => e, rfl⟩ | exact VC.mk (Nat.le_refl _) | exact drawOk_i (by decide +kernel) (by decide +kernel) (by decide +kernel)) | ((with_reducible refine VC.mk ?_); first | (dsimp only; done) | omega | (congr 1; (try simp (disch := omega) only [w64]); omega) | exact ⟨rfl, rfl⟩ | (refine ⟨?_, ?_, ?_⟩; assumption; assumption; omega) | (refine ⟨Nat.le_trans (Nat.mul_le_mul_left _ (m := 1000) ?_) ?_, ?_⟩; decide; omega; omega)) | with_reducible refine splitT ?_ | with_reducible refine splitF ?_ | ((with_reducible refine splitB.mk (fun h => ?_) (fun h => ?_)) <;> (try simp only [decide_eq_true_eq, decide_eq_false_iff_not, ne_eq, Decidable.not_not, Int.not_lt, Int.not_le, Bool.not_eq_true', Bool.not_eq_false'] at h) <;> (try simp (disch := omega) only [w64] at h) <;> (try (exfalso; first | omega | exact h True.intro | (simp only [and_self, not_true_eq_false] at h; done) | (simp only [beq_self_eq_true, Bool.true_eq_false, reduceCtorEq] at h; done)))) | (with_reducible intro hz; (try exact absurd hz (Nat.succ_ne_zero _)))))
    · intro i ⟨hi, hp⟩
      have hlen : ((crV b u (seg l s n)).take i).length = i := by rw [List.length_take, cr_len]; omega
      by_cases hlt : i < n
      · obtain ⟨a, ha⟩ := get_some (l := seg l s n) (i := i) (by omega)
        have hba := are_all hA ha
        have htl := tmod_lt (a := a) (b := u) (by omega)
        (repeat' ((try (conv => whnf)); first | (with_reducible first | refine And.intro ?_ ?_ | refine WX.of ?_ | exact VC.mk rfl | exact True.intro | exact VC.mk ⟨rfl, fun e => e⟩ | exact VC.mk ⟨fun e => e, rfl⟩ | exact VC.mk (Nat.le_refl _) | exact drawOk_i (by decide +kernel) (by decide +kernel) (by decide +kernel)) | ((with_reducible refine VC.mk ?_); first | (dsimp only; done) | omega | (congr 1; (try simp (disch := omega) only [w64]); omega) | exact ⟨rfl, rfl⟩ | (refine ⟨?_, ?_, ?_⟩; assumption; assumption; omega) | (refine ⟨Nat.le_trans (Nat.mul_le_mul_left _ (m := 1000) ?_) ?_, ?_⟩; decide; omega; omega)) | refine atL_i ha ?_ | exact VC.mk ⟨rfl, hgb, hba⟩ | with_reducible refine splitT ?_ | with_reducible refine splitF ?_ | ((with_reducible refine splitB.mk (fun h => ?_) (fun h => ?_)) <;> (try simp only [decide_eq_true_eq, decide_eq_false_iff_not, ne_eq, Decidable.not_not, Int.not_lt, Int.not_le, Bool.not_eq_true', Bool.not_eq_false'] at h) <;> (try simp (disch := omega) only [w64] at h) <;> (try (exfalso; first | omega | exact h True.intro | (simp only [and_self, not_true_eq_false] at h; done) | (simp only [beq_self_eq_true, Bool.true_eq_false, reduceCtorEq] at h; done)))) | (with_reducible intro hz; (try exact absurd hz (Nat.succ_ne_zero _)))))
        · exact ⟨by simp [crC, hr, hA, mul_no ha h]⟩
        · refine ⟨i + 1, by omega, ⟨hlt, upto_step ha h hp⟩, ?_⟩
          (repeat' ((try (conv => whnf)); first | (with_reducible first | refine And.intro ?_ ?_ | refine WX.of ?_ | exact VC.mk rfl | exact True.intro | exact VC.mk ⟨rfl, fun e => e⟩ | exact VC.mk ⟨fun e => e, rfl⟩ | exact VC.mk (Nat.le_refl _) | exact drawOk_i (by decide +kernel) (by decide +kernel) (by decide +kernel)) | ((with_reducible refine VC.mk ?_); first | (dsimp only; done) | omega | (congr 1; (try simp (disch := omega) only [w64]); omega) | exact ⟨rfl, rfl⟩ | (refine ⟨?_, ?_, ?_⟩; assumption; assumption; omega) | (refine ⟨Nat.le_trans (Nat.mul_le_mul_left _ (m := 1000) ?_) ?_, ?_⟩; decide; omega; omega)) | with_reducible refine splitT ?_ | with_reducible refine splitF ?_ | ((with_reducible refine splitB.mk (fun h => ?_) (fun h => ?_)) <;> (try simp only [decide_eq_true_eq, decide_eq_false_iff_not, ne_eq, Decidable.not_not, Int.not_lt, Int.not_le, Bool.not_eq_true', Bool.not_eq_false'] at h) <;> (try simp (disch := omega) only [w64] at h) <;> (try (exfalso; first | omega | exact h True.intro | (simp only [and_self, not_true_eq_false] at h; done) | (simp only [beq_self_eq_true, Bool.true_eq_false, reduceCtorEq] at h; done)))) | (with_reducible intro hz; (try exact absurd hz (Nat.succ_ne_zero _)))))
          exact ⟨app_take (cr_get ha)⟩
      · obtain rfl : i = n := by omega
        exact absurd (by simp only [crC, hr, hA, show mltB u (seg l s i) = true from all_yes (n := i) (by omega) (fun j a hj ha => decide_eq_true (hp j a hj ha)), if_true]) hc
  · have h : rdrB nm b u = false := h
    exact ⟨by simp [crC, h]⟩
  · rename_i hr
    have hr : rdrB nm b u = true := hr
    have h := h
    exact ⟨by simp [crC, hr, h]⟩
theorem ok_CorrectReadingsS0 : SpecOk Try.prog 29 s_cr0S := by
  intro args S h; unfold s_cr0S at h ⊢; (split at h <;> first | exact False.elim h | skip)
  dsimp only at h ⊢
  rename_i nm b u up s n x l wr
  obtain ⟨⟨h1, h2⟩, h3, hc⟩ := h
  have hL := seg_len h1
  have hro : ∀ (j : Nat) (a : List UInt8 × Int × Int × Bool), ([(nm, b, u, up)] : List (List UInt8 × Int × Int × Bool))[j]? = some a → rdrGood a := fun j a ha => by
    match j with
    | 0 => obtain rfl := Option.some.inj ha; exact h3
    | j + 1 => simp at ha
  refine funW tabOk (E := [(53, s_l06Ok), (71, s_l06List), (72, s_l06Span)]) ⟨ok_l06Ok, ok_l06List, ok_l06Span, trivial⟩ [] (k := 1) (fn := Try.f29) rfl rfl rfl rfl rfl rfl ?_
  (repeat' ((try (conv => whnf)); first | (with_reducible first | refine And.intro ?_ ?_ | refine WX.of ?_ | exact VC.mk rfl | exact True.intro | exact VC.mk ⟨rfl, fun e => e⟩ | exact VC.mk ⟨fun e => e, rfl⟩ | exact VC.mk (Nat.le_refl _) | exact drawOk_i (by decide +kernel) (by decide +kernel) (by decide +kernel)) | ((with_reducible refine VC.mk ?_); first | (dsimp only; done) | omega | (congr 1; (try simp (disch := omega) only [w64]); omega) | exact ⟨rfl, rfl⟩ | (refine ⟨?_, ?_, ?_⟩; assumption; assumption; omega) | (refine ⟨Nat.le_trans (Nat.mul_le_mul_left _ (m := 1000) ?_) ?_, ?_⟩; decide; omega; omega)) | exact VC.mk ⟨Nat.zero_lt_one, hro⟩ | with_reducible refine splitT ?_ | with_reducible refine splitF ?_ | ((with_reducible refine splitB.mk (fun h => ?_) (fun h => ?_)) <;> (try simp only [decide_eq_true_eq, decide_eq_false_iff_not, ne_eq, Decidable.not_not, Int.not_lt, Int.not_le, Bool.not_eq_true', Bool.not_eq_false'] at h) <;> (try simp (disch := omega) only [w64] at h) <;> (try (exfalso; first | omega | exact h True.intro | (simp only [and_self, not_true_eq_false] at h; done) | (simp only [beq_self_eq_true, Bool.true_eq_false, reduceCtorEq] at h; done)))) | (with_reducible intro hz; (try exact absurd hz (Nat.succ_ne_zero _)))))
  rotate_left 2
  · rename_i hr
    have hr : rdrB nm b u = true := hr
    have hA : areB (seg l s n) = true := code_0.1 h
    have hgb : gB b u := by have hr' := hr; simp only [rdrB, Bool.and_eq_true] at hr'; exact gB_iff.1 hr'.2
    have hgq := hgb
    unfold gB at hgq
    have hn := are_len hA
    rw [hL] at hn
    refine loopW tabOk (E := [(53, s_l06Ok), (71, s_l06List), (72, s_l06Span)]) ⟨ok_l06Ok, ok_l06List, ok_l06Span, trivial⟩ [] (σ := Nat) (fun i => [(1, .sl 0 s n x), (2, .ptr 1 0 0), (7, .sl 2 0 i 0), (8, .int .i64 i)]) (fun i => [.arr (.int .i64) l 1 wr, .arr (.prod .str (.prod (.int .i16) (.prod (.int .i16) .bool))) [(nm, b, u, up)] 0 true, .arr (.prod (.prod (.int .i64) (.int .i64)) (.prod (.int .i64) (.int .i64))) ((crV b u (seg l s n)).take i) 4 true]) (fun i => n - i) (fun i => i ≤ n ∧ ∀ (j : Nat) a, j < i → (seg l s n)[j]? = some a → a.tmod u = 0) 0 ⟨Nat.zero_le _, fun j a hj => by omega⟩ ?_ ?_
    · (repeat' ((try (conv => whnf)); first | (with_reducible first | refine And.intro ?_ ?_ | refine WX.of ?_ | exact VC.mk rfl | exact True.intro | exact VC.mk ⟨rfl, fun e => e⟩ | exact VC.mk ⟨fun e => e, rfl⟩ | exact VC.mk (Nat.le_refl _) | exact drawOk_i (by decide +kernel) (by decide +kernel) (by decide +kernel)) | ((with_reducible refine VC.mk ?_); first | (dsimp only; done) | omega | (congr 1; (try simp (disch := omega) only [w64]); omega) | exact ⟨rfl, rfl⟩ | (refine ⟨?_, ?_, ?_⟩; assumption; assumption; omega) | (refine ⟨Nat.le_trans (Nat.mul_le_mul_left _ (m := 1000) ?_) ?_, ?_⟩; decide; omega; omega)) | with_reducible refine splitT ?_ | with_reducible refine splitF ?_ | ((with_reducible refine splitB.mk (fun h => ?_) (fun h => ?_)) <;> (try simp only [decide_eq_true_eq, decide_eq_false_iff_not, ne_eq, Decidable.not_not, Int.not_lt, Int.not_le, Bool.not_eq_true', Bool.not_eq_false'] at h) <;> (try simp (disch := omega) only [w64] at h) <;> (try (exfalso; first | omega | exact h True.intro | (simp only [and_self, not_true_eq_false] at h; done) | (simp only [beq_self_eq_true, Bool.true_eq_false, reduceCtorEq] at h; done)))) | (with_reducible intro hz; (try exact absurd hz (Nat.succ_ne_zero _)))))
    · intro i ⟨hi, hp⟩
      have hlen : ((crV b u (seg l s n)).take i).length = i := by rw [List.length_take, cr_len]; omega
      by_cases hlt : i < n
      · obtain ⟨a, ha⟩ := get_some (l := seg l s n) (i := i) (by omega)
        have hba := are_all hA ha
        have htl := tmod_lt (a := a) (b := u) (by omega)
        (repeat' ((try (conv => whnf)); first | (with_reducible first | refine And.intro ?_ ?_ | refine WX.of ?_ | exact VC.mk rfl | exact True.intro | exact VC.mk ⟨rfl, fun e => e⟩ | exact VC.mk ⟨fun e => e, rfl⟩ | exact VC.mk (Nat.le_refl _) | exact drawOk_i (by decide +kernel) (by decide +kernel) (by decide +kernel)) | ((with_reducible refine VC.mk ?_); first | (dsimp only; done) | omega | (congr 1; (try simp (disch := omega) only [w64]); omega) | exact ⟨rfl, rfl⟩ | (refine ⟨?_, ?_, ?_⟩; assumption; assumption; omega) | (refine ⟨Nat.le_trans (Nat.mul_le_mul_left _ (m := 1000) ?_) ?_, ?_⟩; decide; omega; omega)) | refine atL_i ha ?_ | exact VC.mk ⟨Nat.zero_lt_one, hgb, hba⟩ | with_reducible refine splitT ?_ | with_reducible refine splitF ?_ | ((with_reducible refine splitB.mk (fun h => ?_) (fun h => ?_)) <;> (try simp only [decide_eq_true_eq, decide_eq_false_iff_not, ne_eq, Decidable.not_not, Int.not_lt, Int.not_le, Bool.not_eq_true', Bool.not_eq_false'] at h) <;> (try simp (disch := omega) only [w64] at h) <;> (try (exfalso; first | omega | exact h True.intro | (simp only [and_self, not_true_eq_false] at h; done) | (simp only [beq_self_eq_true, Bool.true_eq_false, reduceCtorEq] at h; done)))) | (with_reducible intro hz; (try exact absurd hz (Nat.succ_ne_zero _)))))
        · exact ⟨by simp [crC, hr, hA, mul_no ha h]⟩
        · refine ⟨i + 1, by omega, ⟨hlt, upto_step ha h hp⟩, ?_⟩
          (repeat' ((try (conv => whnf)); first | (with_reducible first | refine And.intro ?_ ?_ | refine WX.of ?_ | exact VC.mk rfl | exact True.intro | exact VC.mk ⟨rfl, fun e => e⟩ | exact VC.mk ⟨fun e => e, rfl⟩ | exact VC.mk (Nat.le_refl _) | exact drawOk_i (by decide +kernel) (by decide +kernel) (by decide +kernel)) | ((with_reducible refine VC.mk ?_); first | (dsimp only; done) | omega | (congr 1; (try simp (disch := omega) only [w64]); omega) | exact ⟨rfl, rfl⟩ | (refine ⟨?_, ?_, ?_⟩; assumption; assumption; omega) | (refine ⟨Nat.le_trans (Nat.mul_le_mul_left _ (m := 1000) ?_) ?_, ?_⟩; decide; omega; omega)) | with_reducible refine splitT ?_ | with_reducible refine splitF ?_ | ((with_reducible refine splitB.mk (fun h => ?_) (fun h => ?_)) <;> (try simp only [decide_eq_true_eq, decide_eq_false_iff_not, ne_eq, Decidable.not_not, Int.not_lt, Int.not_le, Bool.not_eq_true', Bool.not_eq_false'] at h) <;> (try simp (disch := omega) only [w64] at h) <;> (try (exfalso; first | omega | exact h True.intro | (simp only [and_self, not_true_eq_false] at h; done) | (simp only [beq_self_eq_true, Bool.true_eq_false, reduceCtorEq] at h; done)))) | (with_reducible intro hz; (try exact absurd hz (Nat.succ_ne_zero _)))))
          exact ⟨app_take (cr_get ha)⟩
      · obtain rfl : i = n := by omega
        exact absurd (by simp only [crC, hr, hA, show mltB u (seg l s i) = true from all_yes (n := i) (by omega) (fun j a hj ha => decide_eq_true (hp j a hj ha)), if_true]) hc
  · have h : rdrB nm b u = false := h
    exact ⟨by simp [crC, h]⟩
  · rename_i hr
    have hr : rdrB nm b u = true := hr
    have h := code_2.1 h
    exact ⟨by simp [crC, hr, h, areCode]⟩
end Go.Proofs.Ytpnlbacfofdibaa.Eng
