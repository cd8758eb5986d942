/- corr: lemmas for the proof, no conditions of their own. -/
import Derived.Test.YtpnlbacfofdibaaXspans
import Derived.Test.YtpnlbacfofdibaaXhits
import Derived.Test.YtpnlbacfofdibaaXrds
set_option linter.unusedVariables false
set_option linter.unusedSimpArgs false
namespace Go.Proofs.Ytpnlbacfofdibaa.Eng
open Go Go.RowKit
set_option maxRecDepth 100000
/-- The ends of the span of a reading. -/
def loN (b u n : Int) : Int := 2 * (n - b) - u
def hiN (b u n : Int) : Int := 2 * (n - b) + u
def spN (b u n : Int) : (Int × Int) × Int × Int := ((redP (loN b u n) 2, redQ (loN b u n) 2), redP (hiN b u n) 2, redQ (hiN b u n) 2)
theorem half_t {m u g P Q : Int} (hg : 0 < g) (hP : u = g * P) (hQ : 2 = g * Q) (hQ0 : Q ≠ 0) :
    (redP (m * Q - P * 1) (1 * Q) = redP (2 * m - u) 2 ∧ redQ (m * Q - P * 1) (1 * Q) = redQ (2 * m - u) 2) ∧
    (redP (m * Q + P * 1) (1 * Q) = redP (2 * m + u) 2 ∧ redQ (m * Q + P * 1) (1 * Q) = redQ (2 * m + u) 2) := by
  have h1 := red_scale (g := g) (x := m * Q - P * 1) (y := 1 * Q) hg (by omega)
  have h2 := red_scale (g := g) (x := m * Q + P * 1) (y := 1 * Q) hg (by omega)
  have e1 : g * (m * Q - P * 1) = 2 * m - u := by
    rw [Int.mul_sub, Int.mul_one, ← hP, ← Int.mul_assoc, Int.mul_comm g m, Int.mul_assoc, ← hQ, Int.mul_comm m 2]
  have e2 : g * (m * Q + P * 1) = 2 * m + u := by
    rw [Int.mul_add, Int.mul_one, ← hP, ← Int.mul_assoc, Int.mul_comm g m, Int.mul_assoc, ← hQ, Int.mul_comm m 2]
  have e3 : g * (1 * Q) = 2 := by rw [Int.one_mul, ← hQ]
  rw [e1, e3] at h1
  rw [e2, e3] at h2
  exact ⟨⟨h1.1.symm, h1.2.symm⟩, h2.1.symm, h2.2.symm⟩
/-- Half a unit, and the ends. -/
theorem half_u {u : Int} (hu : 1 ≤ u ∧ u ≤ 20) : divOk u 1 2 1 = true ∧ divP u 1 2 1 = redP u 2 ∧ divQ u 1 2 1 = redQ u 2 := by
  have h := redOk_small (p := u) (q := 2) (by omega) (by omega)
  have e1 : u * 1 = u := Int.mul_one u
  have e2 : (1 : Int) * 2 = 2 := rfl
  simp [divOk, divP, divQ, tolP, tolQ, e1, e2, h]
theorem half_sm {u : Int} (hu : 1 ≤ u ∧ u ≤ 20) : smF (redP u 2) (redQ u 2) := smF_ok (redOk_small (p := u) (q := 2) (by omega) (by omega))
theorem half_e {m u : Int} (hu : 1 ≤ u ∧ u ≤ 20) :
    (redP (m * redQ u 2 - redP u 2 * 1) (1 * redQ u 2) = redP (2 * m - u) 2 ∧ redQ (m * redQ u 2 - redP u 2 * 1) (1 * redQ u 2) = redQ (2 * m - u) 2) ∧
    (redP (m * redQ u 2 + redP u 2 * 1) (1 * redQ u 2) = redP (2 * m + u) 2 ∧ redQ (m * redQ u 2 + redP u 2 * 1) (1 * redQ u 2) = redQ (2 * m + u) 2) := by
  have hb := red_back (p := u) (q := 2) (by omega)
  have hg := redG_pos (p := u) (q := 2) (by omega)
  have hQ := redQ_pos (p := u) (q := 2) (by omega)
  exact half_t hg hb.1 hb.2 (by omega)
theorem half_ok {m u : Int} (hu : 1 ≤ u ∧ u ≤ 20) (hm : -2000000 ≤ m ∧ m ≤ 2000000) : redOk (m * redQ u 2 - redP u 2 * 1) (1 * redQ u 2) = true ∧ redOk (m * redQ u 2 + redP u 2 * 1) (1 * redQ u 2) = true := by
  have h := half_e (m := m) hu
  unfold redOk
  rw [h.1.1, h.1.2, h.2.1, h.2.2]
  exact ⟨redOk_small (p := 2 * m - u) (q := 2) (by omega) (by omega), redOk_small (p := 2 * m + u) (q := 2) (by omega) (by omega)⟩
def s_widen : Spec := fun args S => match args, S with
  | [.ptr c 0 0, .agg [.int .i64 p, .int .i64 q, .int .i64 p', .int .i64 q'], .agg [.int .i64 r, .int .i64 s]], [.arr .bool [bad] 0 true] => ⟨c = 0 ∧ smF p q ∧ smF p' q' ∧ smF r s, .agg [.int .i64 (tolP (p * s - r * q) (q * s)), .int .i64 (tolQ (p * s - r * q) (q * s)), .int .i64 (tolP (p' * s + r * q') (q' * s)), .int .i64 (tolQ (p' * s + r * q') (q' * s))], [.arr .bool [bad || !redOk (p * s - r * q) (q * s) || !redOk (p' * s + r * q') (q' * s)] 0 true]⟩
  | _, _ => noSpec
theorem ok_widen : SpecOk Try.prog 108 s_widen := by
  intro args S h; unfold s_widen at h ⊢; (split at h <;> first | exact False.elim h | skip)
  dsimp only at h ⊢
  rename_i c p q p' q' r s bad
  obtain ⟨rfl, h1, h2, h3⟩ := h
  refine funW tabOk (E := [(95, s_sub), (126, s_add)]) ⟨ok_sub, ok_add, trivial⟩ [(1, [(7, 0), (8, 0)])] (k := 1) (fn := Try.f108) rfl rfl rfl rfl rfl rfl ?_
  (repeat' ((try (conv => whnf)); first | (with_reducible first | refine And.intro ?_ ?_ | refine WX.of ?_ | exact VC.mk rfl | exact True.intro | exact VC.mk ⟨rfl, fun e => e⟩ | exact VC.mk ⟨fun e => e, rfl⟩ | exact VC.mk (Nat.le_refl _) | exact drawOk_i (by decide +kernel) (by decide +kernel) (by decide +kernel)) | ((with_reducible refine VC.mk ?_); first | (dsimp only; done) | omega | (congr 1; (try simp (disch := omega) only [w64]); omega) | exact ⟨rfl, rfl⟩ | (refine ⟨?_, ?_, ?_⟩; assumption; assumption; omega) | (refine ⟨Nat.le_trans (Nat.mul_le_mul_left _ (m := 1000) ?_) ?_, ?_⟩; decide; omega; omega)) | exact VC.mk ⟨rfl, h1, h3⟩ | exact VC.mk ⟨rfl, h2, h3⟩ | with_reducible refine splitT ?_ | with_reducible refine splitF ?_ | ((with_reducible refine splitB.mk (fun h => ?_) (fun h => ?_)) <;> (try simp only [decide_eq_true_eq, decide_eq_false_iff_not, ne_eq, Decidable.not_not, Int.not_lt, Int.not_le, Bool.not_eq_true', Bool.not_eq_false'] at h) <;> (try simp (disch := omega) only [w64] at h) <;> (try (exfalso; first | omega | exact h True.intro | (simp only [and_self, not_true_eq_false] at h; done) | (simp only [beq_self_eq_true, Bool.true_eq_false, reduceCtorEq] at h; done)))) | (with_reducible intro hz; (try exact absurd hz (Nat.succ_ne_zero _)))))
def s_corrected : Spec := fun args S => match args, S with
  | [.ptr c 0 0, .agg [.str nm, .int .i16 b, .int .i16 u, .bool up], .int .i64 n], [.arr .bool [bad] 0 true] => ⟨c = 0 ∧ gB b u ∧ -1000000 ≤ n ∧ n ≤ 1000000, .tup [.agg [.int .i64 (spN b u n).1.1, .int .i64 (spN b u n).1.2, .int .i64 (spN b u n).2.1, .int .i64 (spN b u n).2.2], .bool (decide (n.tmod u = 0))], [.arr .bool [bad] 0 true]⟩
  | _, _ => noSpec
theorem ok_corrected : SpecOk Try.prog 74 s_corrected := by
  intro args S h; unfold s_corrected at h ⊢; (split at h <;> first | exact False.elim h | skip)
  dsimp only at h ⊢
  rename_i c nm b u up n bad
  obtain ⟨rfl, hg, hn⟩ := h
  unfold gB at hg
  have hh := half_u hg.2
  have hs := half_sm hg.2
  have he := half_e (m := n - b) hg.2
  have ho := half_ok (m := n - b) hg.2 (by omega)
  have ht := tmod_lt (a := n) (b := u) (by omega)
  refine funW tabOk (E := [(109, s_num), (110, s_div), (108, s_widen)]) ⟨ok_num, ok_div, ok_widen, trivial⟩ [(1, [(9, 0), (16, 0), (16, 1), (24, 0), (24, 1), (24, 2), (24, 3), (24, 4), (24, 5), (24, 7)])] (k := 1) (fn := Try.f74) rfl rfl rfl rfl rfl rfl ?_
  (repeat' ((try (conv => whnf)); first | (with_reducible first | refine And.intro ?_ ?_ | refine WX.of ?_ | exact VC.mk rfl | exact True.intro | exact VC.mk ⟨rfl, fun e => e⟩ | exact VC.mk ⟨fun e => e, rfl⟩ | exact VC.mk (Nat.le_refl _) | exact drawOk_i (by decide +kernel) (by decide +kernel) (by decide +kernel)) | ((with_reducible refine VC.mk ?_); first | (dsimp only; done) | omega | (congr 1; (try simp (disch := omega) only [w64]); omega) | exact ⟨rfl, rfl⟩ | (refine ⟨?_, ?_, ?_⟩; assumption; assumption; omega) | (refine ⟨Nat.le_trans (Nat.mul_le_mul_left _ (m := 1000) ?_) ?_, ?_⟩; decide; omega; omega)) | with_reducible refine splitT ?_ | with_reducible refine splitF ?_ | ((with_reducible refine splitB.mk (fun h => ?_) (fun h => ?_)) <;> (try simp only [decide_eq_true_eq, decide_eq_false_iff_not, ne_eq, Decidable.not_not, Int.not_lt, Int.not_le, Bool.not_eq_true', Bool.not_eq_false'] at h) <;> (try simp (disch := omega) only [w64] at h) <;> (try (exfalso; first | omega | exact h True.intro | (simp only [and_self, not_true_eq_false] at h; done) | (simp only [beq_self_eq_true, Bool.true_eq_false, reduceCtorEq] at h; done)))) | (with_reducible intro hz; (try exact absurd hz (Nat.succ_ne_zero _)))))
  · refine ⟨⟨rfl, ?_, smF_1 (by omega)⟩⟩
    dsimp only; rw [w64 (by omega)]; exact smF_1 (by omega)
  · refine ⟨?_⟩
    simp (disch := omega) only [w64, hh.2.1, hh.2.2]
    exact ⟨trivial, smF_1 (by omega), smF_1 (by omega), hs⟩
  · refine ⟨?_⟩
    simp (disch := omega) only [w64, hh.2.1, hh.2.2, tolP, tolQ, ho.1, ho.2, he.1.1, he.1.2, he.2.1, he.2.2, spN, loN, hiN, if_true]
  · refine ⟨?_⟩
    simp (disch := omega) only [w64, hh.1, hh.2.1, hh.2.2, ho.1, ho.2, Bool.not_true, Bool.or_false]
def s_l06Span : Spec := fun args S => match args, S with
  | [.ptr 0 i 0, .int .i64 n], [.arr (.prod .str (.prod (.int .i16) (.prod (.int .i16) .bool))) l sz wr] => ⟨i < l.length ∧ gB ((l[i]?).getD ([], 0, 0, false)).2.1 ((l[i]?).getD ([], 0, 0, false)).2.2.1 ∧ -1000000 ≤ n ∧ n ≤ 1000000, .agg [.int .i64 (spN ((l[i]?).getD ([], 0, 0, false)).2.1 ((l[i]?).getD ([], 0, 0, false)).2.2.1 n).1.1, .int .i64 (spN ((l[i]?).getD ([], 0, 0, false)).2.1 ((l[i]?).getD ([], 0, 0, false)).2.2.1 n).1.2, .int .i64 (spN ((l[i]?).getD ([], 0, 0, false)).2.1 ((l[i]?).getD ([], 0, 0, false)).2.2.1 n).2.1, .int .i64 (spN ((l[i]?).getD ([], 0, 0, false)).2.1 ((l[i]?).getD ([], 0, 0, false)).2.2.1 n).2.2], [.arr (.prod .str (.prod (.int .i16) (.prod (.int .i16) .bool))) l sz wr]⟩
  | _, _ => noSpec
theorem ok_l06Span : SpecOk Try.prog 72 s_l06Span := by
  intro args S h; unfold s_l06Span at h ⊢; (split at h <;> first | exact False.elim h | skip)
  dsimp only at h ⊢
  rename_i i n l sz wr
  obtain ⟨⟨nm, b, u, up⟩, ha⟩ := get_some h.1
  have e : (l[i]?).getD ([], 0, 0, false) = (nm, b, u, up) := by rw [ha]; rfl
  rw [e] at h ⊢
  obtain ⟨h1, hg, hn⟩ := h
  dsimp only at hg
  unfold gB at hg
  have ho1 := redOk_small (p := loN b u n) (q := 2) (by unfold loN; omega) (by omega)
  have ho2 := redOk_small (p := hiN b u n) (q := 2) (by unfold hiN; omega) (by omega)
  unfold loN at ho1
  unfold hiN at ho2
  refine funW tabOk (E := [(87, s_red)]) ⟨ok_l01Reduced, trivial⟩ [] (k := 1) (fn := Try.f72) rfl rfl rfl rfl rfl rfl ?_
  (repeat' ((try (conv => whnf)); first | (with_reducible first | refine And.intro ?_ ?_ | refine WX.of ?_ | exact VC.mk rfl | exact True.intro | exact VC.mk ⟨rfl, fun e => e⟩ | exact VC.mk ⟨fun e => e, rfl⟩ | exact VC.mk (Nat.le_refl _) | exact drawOk_i (by decide +kernel) (by decide +kernel) (by decide +kernel)) | ((with_reducible refine VC.mk ?_); first | (dsimp only; done) | omega | (congr 1; (try simp (disch := omega) only [w64]); omega) | exact ⟨rfl, rfl⟩ | (refine ⟨?_, ?_, ?_⟩; assumption; assumption; omega) | (refine ⟨Nat.le_trans (Nat.mul_le_mul_left _ (m := 1000) ?_) ?_, ?_⟩; decide; omega; omega)) | refine atL_p ha ?_ | ((with_reducible refine VC.mk ?_); simp (disch := omega) only [w64]; first  |  done  |  omega  |  (refine ⟨?_, ?_, ?_⟩ <;> first  |  trivial  |  omega)) | with_reducible refine splitT ?_ | with_reducible refine splitF ?_ | ((with_reducible refine splitB.mk (fun h => ?_) (fun h => ?_)) <;> (try simp only [decide_eq_true_eq, decide_eq_false_iff_not, ne_eq, Decidable.not_not, Int.not_lt, Int.not_le, Bool.not_eq_true', Bool.not_eq_false'] at h) <;> (try simp (disch := omega) only [w64] at h) <;> (try (exfalso; first | omega | exact h True.intro | (simp only [and_self, not_true_eq_false] at h; done) | (simp only [beq_self_eq_true, Bool.true_eq_false, reduceCtorEq] at h; done)))) | (with_reducible intro hz; (try exact absurd hz (Nat.succ_ne_zero _)))))
  refine ⟨?_⟩
  simp (disch := omega) only [w64, ho1, ho2, spN, loN, hiN, if_true]
end Go.Proofs.Ytpnlbacfofdibaa.Eng
