/- vernX: lemmas for the proof, no conditions of their own. -/
import Derived.Test.YtbmejhabgoimeaaXvernW
set_option linter.unusedVariables false
set_option linter.unusedSimpArgs false
namespace Go.Proofs.Ytbmejhabgoimeaa.Eng
open Go Go.RowKit
set_option maxRecDepth 100000
theorem any_snoc {α : Type} {p : α → Bool} {L : List α} {i : Nat} {a : α} (ha : L[i]? = some a) : (L.take (i + 1)).any p = ((L.take i).any p || p a) := by
  rw [List.take_add_one, ha, List.any_append]; simp
theorem app_0 {α : Type} {D : List α} {w : α} (h : D[0]? = some w) : seg [w] 0 1 = D.take 1 := by
  cases D with
  | nil => simp at h
  | cons a D => simp at h; subst h; simp [seg]
theorem wm_len (f : FrT) (E : List FrT) : (wmE f E).length = E.length := by unfold wmE; simp
theorem wm_get {f : FrT} {E : List FrT} {i : Nat} {a : FrT} (h : E[i]? = some a) : (wmE f E)[i]? = some (tv (muO a f)) := by unfold wmE; rw [List.getElem?_map, h]; rfl
theorem warm_ok {u y w : FrT} {E E' : List FrT} (h : warmE u E y = .ok (w, E')) : ¬ 10 * (y.1.natAbs : Int) > y.2 ∧ ∃ f, adO (1, 1) y = some f ∧ muO u f = some w ∧ wmX f E = false ∧ scB w.1 w.2 E' = true ∧ wmE f E = E' := by
  unfold warmE at h
  split at h
  · cases h
  · rename_i h0
    refine ⟨h0, ?_⟩
    cases h1 : wmO u E y with
    | none => rw [h1] at h; cases h
    | some v =>
      rw [h1] at h
      cases h
      unfold wmO at h1
      cases h2 : adO (1, 1) y with
      | none => rw [h2] at h1; simp at h1
      | some f =>
        rw [h2] at h1
        simp only [Option.bind_some] at h1
        cases h3 : muO u f with
        | none => rw [h3] at h1; simp at h1
        | some w2 =>
          rw [h3] at h1
          simp only [Option.bind_some] at h1
          split at h1
          · rename_i h4
            obtain ⟨rfl, rfl⟩ := Prod.mk.inj (Option.some.inj h1)
            exact ⟨f, rfl, h3, h4.1, h4.2, rfl⟩
          · simp at h1
def s_addP (v : FrT) : Spec := fun args S => match args, S with
  | [.ptr b 0 0, .agg [.int .i64 p, .int .i64 q], .agg [.int .i64 p', .int .i64 q']], [.arr .bool [bad] 0 true] => ⟨(b = 0 ∧ smF p q ∧ smF p' q') ∧ adO (p, q) (p', q') = some v, .agg [.int .i64 v.1, .int .i64 v.2], [.arr .bool [bad] 0 true]⟩
  | _, _ => noSpec
theorem ok_addP (v : FrT) : SpecOk Try.prog 53 (s_addP v) := by
  intro args S h; unfold s_addP at h ⊢; (split at h <;> first | exact False.elim h | skip)
  dsimp only at h ⊢
  rename_i b p q p' q' bad
  have h2 := ok_addO [.ptr b 0 0, .agg [.int .i64 p, .int .i64 q], .agg [.int .i64 p', .int .i64 q']] [.arr .bool [bad] 0 true] h.1
  simp only [s_addO, h.2, tv, Option.getD_some, Option.isSome_some, Bool.not_true, Bool.or_false] at h2
  exact h2
/-- A scale that is warm. -/
def s_warm1 (w : FrT) (E' : List FrT) : Spec := fun args S => match args, S with
  | [.agg [.int .i64 up, .int .i64 uq, .sl 0 s n x], .agg [.int .i64 yp, .int .i64 yq]], [.arr (.prod (.int .i64) (.int .i64)) l 2 wr] => ⟨(s + n ≤ l.length ∧ scB up uq (seg l s n) = true ∧ fOk yp yq = true) ∧ warmE (up, uq) (seg l s n) (yp, yq) = .ok (w, E'), .tup [.agg [.int .i64 w.1, .int .i64 w.2, .sl 1 0 n 0], .int .i64 0], [.arr (.prod (.int .i64) (.int .i64)) l 2 wr, .arr (.prod (.int .i64) (.int .i64)) E' 2 true]⟩
  | _, _ => noSpec
def s_warm0 (c : Int) : Spec := fun args S => match args, S with
  | [.agg [.int .i64 up, .int .i64 uq, .sl 0 s n x], .agg [.int .i64 yp, .int .i64 yq]], [.arr (.prod (.int .i64) (.int .i64)) l 2 wr] => ⟨(s + n ≤ l.length ∧ scB up uq (seg l s n) = true ∧ fOk yp yq = true) ∧ warmE (up, uq) (seg l s n) (yp, yq) = .error c, .tup [.agg [.int .i64 0, .int .i64 0, .nils], .int .i64 c], [.arr (.prod (.int .i64) (.int .i64)) l 2 wr]⟩
  | _, _ => noSpec
theorem cmp10 {p q : Int} (hq : smF p q) : 0 < cmpF (p.natAbs : Int) q 1 10 ↔ 10 * (p.natAbs : Int) > q := by rw [cmpF_gt]; unfold smF at hq; omega
attribute [local irreducible] sbO muO adO dvO mkV in
set_option maxHeartbeats 3200000 in
theorem ok_warm1I (w : FrT) (E' : List FrT) : SpecOk Try.prog 27 (s_warm1 w E') := by
  intro args S h; unfold s_warm1 at h ⊢; (split at h <;> first | exact False.elim h | skip)
  dsimp only at h ⊢
  rename_i up uq s n x yp yq l wr
  obtain ⟨⟨h1, hsc, hy⟩, hw⟩ := h
  have hL := seg_len h1
  have hsz := sc_sz hsc
  rw [hL] at hsz
  have hel := sc_el hsc
  have hys := smF_ok hy
  obtain ⟨h0, ⟨fp, fq⟩, hf, hm, hX, hs', hE⟩ := warm_ok hw
  have hfs : smF fp fq := by have := smF_ad (1, 1) (yp, yq); rw [hf] at this; exact this
  have hc := cmp10 hys
  have hs1 : smF (yp.natAbs : Int) yq := by unfold smF at hys ⊢; omega
  have hs2 : smF 1 10 := by unfold smF; omega
  have hlen : (wmE (fp, fq) (seg l s n)).length = n := by rw [wm_len, hL]
  have hE2 : seg E' 0 n = E' := seg_full (by rw [← hE]; exact hlen)
  have hnc : decide (0 < cmpF (yp.natAbs : Int) yq 1 10) = false := decide_eq_false (by rw [hc]; exact h0)
  refine funW tabOk (E := [(56, s_vScale), (37, s_fOk), (57, s_size), (38, s_cmp), (26, s_num), (53, (s_addP (fp, fq))), (54, s_mulO)]) ⟨ok_ValidScale, ok_ValidFrac, ok_size, ok_compare, ok_num, (ok_addP (fp, fq)), ok_mulO, trivial⟩ [(6, [(2, 0), (4, 0), (4, 1)]), (11, [(1, 1), (1, 2)])] (k := 1) (fn := Try.f27) rfl rfl rfl rfl rfl rfl ?_
  (repeat' ((try (conv => whnf)); first | (with_reducible first | refine And.intro ?_ ?_ | refine WX.of ?_ | exact VC.mk rfl | exact True.intro | exact VC.mk ⟨rfl, fun e => e⟩ | exact VC.mk ⟨fun e => e, rfl⟩ | exact VC.mk (Nat.le_refl _) | exact drawOk_i (by decide +kernel) (by decide +kernel) (by decide +kernel)) | ((with_reducible refine VC.mk ?_); first | (dsimp only; done) | omega | (congr 1; (try simp (disch := omega) only [w64]); omega) | exact ⟨rfl, rfl⟩ | (refine ⟨?_, ?_, ?_⟩; assumption; assumption; omega) | (refine ⟨Nat.le_trans (Nat.mul_le_mul_left _ (m := 1000) ?_) ?_, ?_⟩; decide; omega; omega)) | ((with_reducible refine splitT_of ?_ ?_); (focus (simp only [hsc, hy, hnc, Bool.not_true, Bool.not_false, decide_true, decide_false]; done))) | ((with_reducible refine splitF_of ?_ ?_); (focus (simp only [hsc, hy, hnc, Bool.not_true, Bool.not_false, decide_true, decide_false]; done))) | ((with_reducible refine VC.mk ?_); exact hys) | ((with_reducible refine VC.mk ?_); exact ⟨hs1, hs2⟩) | ((with_reducible refine VC.mk ?_); exact ⟨⟨rfl, smF_1 (by omega), hys⟩, hf⟩) | ((with_reducible refine VC.mk ?_); exact ⟨rfl, smF_ok hsz.1, hfs⟩) | with_reducible refine splitT ?_ | with_reducible refine splitF ?_ | ((with_reducible refine splitB.mk (fun h => ?_) (fun h => ?_)) <;> (try simp only [decide_eq_true_eq, decide_eq_false_iff_not, ne_eq, Decidable.not_not, Int.not_lt, Int.not_le, Bool.not_eq_true', Bool.not_eq_false'] at h) <;> (try simp (disch := omega) only [w64] at h) <;> (try (exfalso; first | omega | exact h True.intro | (simp only [and_self, not_true_eq_false] at h; done) | (simp only [beq_self_eq_true, Bool.true_eq_false, reduceCtorEq] at h; done)))) | (with_reducible intro hz; (try exact absurd hz (Nat.succ_ne_zero _)))))
  refine loopW tabOk (E := [(56, s_vScale), (37, s_fOk), (57, s_size), (38, s_cmp), (26, s_num), (53, (s_addP (fp, fq))), (54, s_mulO)]) ⟨ok_ValidScale, ok_ValidFrac, ok_size, ok_compare, ok_num, (ok_addP (fp, fq)), ok_mulO, trivial⟩ [(6, [(2, 0), (4, 0), (4, 1)]), (11, [(1, 1), (1, 2)])] (σ := Option Nat) (fun o => match o with
    | none => [(4, .ptr 1 0 0), (6, .ptr 2 0 0), (7, .ptr 3 0 0), (8, .ptr 4 0 0), (41, .sl 0 s n x), (42, .int .i64 n), (43, .int .i64 0)]
    | some i => [(4, .ptr 1 0 0), (6, .ptr 2 0 0), (7, .ptr 3 0 0), (8, .ptr 4 0 0), (41, .sl 0 s n x), (42, .int .i64 n), (43, .int .i64 i)]) (fun o => match o with
    | none => [.arr (.prod (.int .i64) (.int .i64)) l 2 wr, .box [.int .i64 0, .int .i64 0, .nils] true false, .arr .bool [false] 0 true, .arr (.prod (.int .i64) (.int .i64)) [(fp, fq)] 0 true, .box [.int .i64 w.1, .int .i64 w.2, .nils] true false]
    | some i => [.arr (.prod (.int .i64) (.int .i64)) l 2 wr, .box [.int .i64 0, .int .i64 0, .nils] true false, .arr .bool [wmX (fp, fq) ((seg l s n).take i)] 0 true, .arr (.prod (.int .i64) (.int .i64)) [(fp, fq)] 0 true, .box [.int .i64 w.1, .int .i64 w.2, .sl 5 0 i 0] true false, .arr (.prod (.int .i64) (.int .i64)) ((wmE (fp, fq) (seg l s n)).take i) 2 true]) (fun o => match o with | none => n + 1 | some i => n - i) (fun o => match o with | none => True | some i => 1 ≤ i ∧ i ≤ n) none trivial ?_ ?_
  · (repeat' ((try (conv => whnf)); first | (with_reducible first | refine And.intro ?_ ?_ | refine WX.of ?_ | exact VC.mk rfl | exact True.intro | exact VC.mk ⟨rfl, fun e => e⟩ | exact VC.mk ⟨fun e => e, rfl⟩ | exact VC.mk (Nat.le_refl _) | exact drawOk_i (by decide +kernel) (by decide +kernel) (by decide +kernel)) | ((with_reducible refine VC.mk ?_); first | (dsimp only; done) | omega | (congr 1; (try simp (disch := omega) only [w64]); omega) | exact ⟨rfl, rfl⟩ | (refine ⟨?_, ?_, ?_⟩; assumption; assumption; omega) | (refine ⟨Nat.le_trans (Nat.mul_le_mul_left _ (m := 1000) ?_) ?_, ?_⟩; decide; omega; omega)) | with_reducible refine splitT ?_ | with_reducible refine splitF ?_ | ((with_reducible refine splitB.mk (fun h => ?_) (fun h => ?_)) <;> (try simp only [decide_eq_true_eq, decide_eq_false_iff_not, ne_eq, Decidable.not_not, Int.not_lt, Int.not_le, Bool.not_eq_true', Bool.not_eq_false'] at h) <;> (try simp (disch := omega) only [w64] at h) <;> (try (exfalso; first | omega | exact h True.intro | (simp only [and_self, not_true_eq_false] at h; done) | (simp only [beq_self_eq_true, Bool.true_eq_false, reduceCtorEq] at h; done)))) | (with_reducible intro hz; (try exact absurd hz (Nat.succ_ne_zero _)))))
    all_goals exact ⟨by simp [hm, tv]⟩
  · intro o hi
    cases o with
    | none =>
      obtain ⟨⟨p, q⟩, ha⟩ := get_some (l := seg l s n) (i := 0) (by omega)
      have hw2 := wm_get (f := (fp, fq)) ha
      (repeat' ((try (conv => whnf)); first | (with_reducible first | refine And.intro ?_ ?_ | refine WX.of ?_ | exact VC.mk rfl | exact True.intro | exact VC.mk ⟨rfl, fun e => e⟩ | exact VC.mk ⟨fun e => e, rfl⟩ | exact VC.mk (Nat.le_refl _) | exact drawOk_i (by decide +kernel) (by decide +kernel) (by decide +kernel)) | ((with_reducible refine VC.mk ?_); first | (dsimp only; done) | omega | (congr 1; (try simp (disch := omega) only [w64]); omega) | exact ⟨rfl, rfl⟩ | (refine ⟨?_, ?_, ?_⟩; assumption; assumption; omega) | (refine ⟨Nat.le_trans (Nat.mul_le_mul_left _ (m := 1000) ?_) ?_, ?_⟩; decide; omega; omega)) | refine atL_i ha ?_ | ((with_reducible refine VC.mk ?_); exact ⟨rfl, hel _ _ ha, hfs⟩) | with_reducible refine splitT ?_ | with_reducible refine splitF ?_ | ((with_reducible refine splitB.mk (fun h => ?_) (fun h => ?_)) <;> (try simp only [decide_eq_true_eq, decide_eq_false_iff_not, ne_eq, Decidable.not_not, Int.not_lt, Int.not_le, Bool.not_eq_true', Bool.not_eq_false'] at h) <;> (try simp (disch := omega) only [w64] at h) <;> (try (exfalso; first | omega | exact h True.intro | (simp only [and_self, not_true_eq_false] at h; done) | (simp only [beq_self_eq_true, Bool.true_eq_false, reduceCtorEq] at h; done)))) | (with_reducible intro hz; (try exact absurd hz (Nat.succ_ne_zero _)))))
      refine ⟨some 1, by dsimp only; omega, ⟨by omega, by omega⟩, ?_⟩
      (repeat' ((try (conv => whnf)); first | (with_reducible first | refine And.intro ?_ ?_ | refine WX.of ?_ | exact VC.mk rfl | exact True.intro | exact VC.mk ⟨rfl, fun e => e⟩ | exact VC.mk ⟨fun e => e, rfl⟩ | exact VC.mk (Nat.le_refl _) | exact drawOk_i (by decide +kernel) (by decide +kernel) (by decide +kernel)) | ((with_reducible refine VC.mk ?_); first | (dsimp only; done) | omega | (congr 1; (try simp (disch := omega) only [w64]); omega) | exact ⟨rfl, rfl⟩ | (refine ⟨?_, ?_, ?_⟩; assumption; assumption; omega) | (refine ⟨Nat.le_trans (Nat.mul_le_mul_left _ (m := 1000) ?_) ?_, ?_⟩; decide; omega; omega)) | with_reducible refine splitT ?_ | with_reducible refine splitF ?_ | ((with_reducible refine splitB.mk (fun h => ?_) (fun h => ?_)) <;> (try simp only [decide_eq_true_eq, decide_eq_false_iff_not, ne_eq, Decidable.not_not, Int.not_lt, Int.not_le, Bool.not_eq_true', Bool.not_eq_false'] at h) <;> (try simp (disch := omega) only [w64] at h) <;> (try (exfalso; first | omega | exact h True.intro | (simp only [and_self, not_true_eq_false] at h; done) | (simp only [beq_self_eq_true, Bool.true_eq_false, reduceCtorEq] at h; done)))) | (with_reducible intro hz; (try exact absurd hz (Nat.succ_ne_zero _)))))
      · exact ⟨by unfold wmX; rw [show (1 : Nat) = 0 + 1 from rfl, any_snoc ha]; simp⟩
      · exact ⟨by rw [app_0 hw2]⟩
    | some i =>
      dsimp only at hi ⊢
      have hlen2 : ((wmE (fp, fq) (seg l s n)).take i).length = i := by rw [List.length_take, hlen]; omega
      by_cases hlt : i < n
      · obtain ⟨⟨p, q⟩, ha⟩ := get_some (l := seg l s n) (i := i) (by omega)
        have hw2 := wm_get (f := (fp, fq)) ha
        (repeat' ((try (conv => whnf)); first | (with_reducible first | refine And.intro ?_ ?_ | refine WX.of ?_ | exact VC.mk rfl | exact True.intro | exact VC.mk ⟨rfl, fun e => e⟩ | exact VC.mk ⟨fun e => e, rfl⟩ | exact VC.mk (Nat.le_refl _) | exact drawOk_i (by decide +kernel) (by decide +kernel) (by decide +kernel)) | ((with_reducible refine VC.mk ?_); first | (dsimp only; done) | omega | (congr 1; (try simp (disch := omega) only [w64]); omega) | exact ⟨rfl, rfl⟩ | (refine ⟨?_, ?_, ?_⟩; assumption; assumption; omega) | (refine ⟨Nat.le_trans (Nat.mul_le_mul_left _ (m := 1000) ?_) ?_, ?_⟩; decide; omega; omega)) | refine atL_i ha ?_ | ((with_reducible refine VC.mk ?_); exact ⟨rfl, hel _ _ ha, hfs⟩) | with_reducible refine splitT ?_ | with_reducible refine splitF ?_ | ((with_reducible refine splitB.mk (fun h => ?_) (fun h => ?_)) <;> (try simp only [decide_eq_true_eq, decide_eq_false_iff_not, ne_eq, Decidable.not_not, Int.not_lt, Int.not_le, Bool.not_eq_true', Bool.not_eq_false'] at h) <;> (try simp (disch := omega) only [w64] at h) <;> (try (exfalso; first | omega | exact h True.intro | (simp only [and_self, not_true_eq_false] at h; done) | (simp only [beq_self_eq_true, Bool.true_eq_false, reduceCtorEq] at h; done)))) | (with_reducible intro hz; (try exact absurd hz (Nat.succ_ne_zero _)))))
        refine ⟨some (i + 1), by dsimp only; omega, ⟨by omega, by omega⟩, ?_⟩
        (repeat' ((try (conv => whnf)); first | (with_reducible first | refine And.intro ?_ ?_ | refine WX.of ?_ | exact VC.mk rfl | exact True.intro | exact VC.mk ⟨rfl, fun e => e⟩ | exact VC.mk ⟨fun e => e, rfl⟩ | exact VC.mk (Nat.le_refl _) | exact drawOk_i (by decide +kernel) (by decide +kernel) (by decide +kernel)) | ((with_reducible refine VC.mk ?_); first | (dsimp only; done) | omega | (congr 1; (try simp (disch := omega) only [w64]); omega) | exact ⟨rfl, rfl⟩ | (refine ⟨?_, ?_, ?_⟩; assumption; assumption; omega) | (refine ⟨Nat.le_trans (Nat.mul_le_mul_left _ (m := 1000) ?_) ?_, ?_⟩; decide; omega; omega)) | with_reducible refine splitT ?_ | with_reducible refine splitF ?_ | ((with_reducible refine splitB.mk (fun h => ?_) (fun h => ?_)) <;> (try simp only [decide_eq_true_eq, decide_eq_false_iff_not, ne_eq, Decidable.not_not, Int.not_lt, Int.not_le, Bool.not_eq_true', Bool.not_eq_false'] at h) <;> (try simp (disch := omega) only [w64] at h) <;> (try (exfalso; first | omega | exact h True.intro | (simp only [and_self, not_true_eq_false] at h; done) | (simp only [beq_self_eq_true, Bool.true_eq_false, reduceCtorEq] at h; done)))) | (with_reducible intro hz; (try exact absurd hz (Nat.succ_ne_zero _)))))
        · exact ⟨by unfold wmX; rw [any_snoc ha]⟩
        · exact ⟨app_take hw2⟩
      · obtain rfl : i = n := by omega
        rw [List.take_of_length_le (by omega), List.take_of_length_le (by omega), hX, hE]
        have hE3 : E'.length = i := by rw [← hE]; exact hlen
        (repeat' ((try (conv => whnf)); first | (with_reducible first | refine And.intro ?_ ?_ | refine WX.of ?_ | exact VC.mk rfl | exact True.intro | exact VC.mk ⟨rfl, fun e => e⟩ | exact VC.mk ⟨fun e => e, rfl⟩ | exact VC.mk (Nat.le_refl _) | exact drawOk_i (by decide +kernel) (by decide +kernel) (by decide +kernel)) | ((with_reducible refine VC.mk ?_); first | (dsimp only; done) | omega | (congr 1; (try simp (disch := omega) only [w64]); omega) | exact ⟨rfl, rfl⟩ | (refine ⟨?_, ?_, ?_⟩; assumption; assumption; omega) | (refine ⟨Nat.le_trans (Nat.mul_le_mul_left _ (m := 1000) ?_) ?_, ?_⟩; decide; omega; omega)) | ((with_reducible refine splitT_of ?_ ?_); (focus (simp only [hE2, hs', Bool.not_true, Bool.not_false, decide_true, decide_false]; done))) | ((with_reducible refine splitF_of ?_ ?_); (focus (simp only [hE2, hs', Bool.not_true, Bool.not_false, decide_true, decide_false]; done))) | ((with_reducible refine VC.mk ?_); exact ⟨by omega, by omega⟩) | with_reducible refine splitT ?_ | with_reducible refine splitF ?_ | ((with_reducible refine splitB.mk (fun h => ?_) (fun h => ?_)) <;> (try simp only [decide_eq_true_eq, decide_eq_false_iff_not, ne_eq, Decidable.not_not, Int.not_lt, Int.not_le, Bool.not_eq_true', Bool.not_eq_false'] at h) <;> (try simp (disch := omega) only [w64] at h) <;> (try (exfalso; first | omega | exact h True.intro | (simp only [and_self, not_true_eq_false] at h; done) | (simp only [beq_self_eq_true, Bool.true_eq_false, reduceCtorEq] at h; done)))) | (with_reducible intro hz; (try exact absurd hz (Nat.succ_ne_zero _)))))
def s_addQ (v : FrT) (k : Bool) : Spec := fun args S => match args, S with
  | [.ptr b 0 0, .agg [.int .i64 p, .int .i64 q], .agg [.int .i64 p', .int .i64 q']], [.arr .bool [bad] 0 true] => ⟨(b = 0 ∧ smF p q ∧ smF p' q') ∧ tv (adO (p, q) (p', q')) = v ∧ (adO (p, q) (p', q')).isSome = k, .agg [.int .i64 v.1, .int .i64 v.2], [.arr .bool [bad || !k] 0 true]⟩
  | _, _ => noSpec
theorem ok_addQ (v : FrT) (k : Bool) : SpecOk Try.prog 53 (s_addQ v k) := by
  intro args S h; unfold s_addQ at h ⊢; (split at h <;> first | exact False.elim h | skip)
  dsimp only at h ⊢
  rename_i b p q p' q' bad
  have h2 := ok_addO [.ptr b 0 0, .agg [.int .i64 p, .int .i64 q], .agg [.int .i64 p', .int .i64 q']] [.arr .bool [bad] 0 true] h.1
  simp only [s_addO, h.2.1, h.2.2] at h2
  exact h2
theorem warm_no {u y : FrT} {E : List FrT} {c : Int} (h : warmE u E y = .error c) (h0 : ¬ 10 * (y.1.natAbs : Int) > y.2) : c = 3 ∧ wmO u E y = none := by
  unfold warmE at h
  rw [if_neg h0] at h
  cases h1 : wmO u E y with
  | none => rw [h1] at h; cases h; exact ⟨rfl, rfl⟩
  | some v => rw [h1] at h; cases h
theorem warm_far {u y : FrT} {E : List FrT} {c : Int} (h : warmE u E y = .error c) (h0 : 10 * (y.1.natAbs : Int) > y.2) : c = 2 := by
  unfold warmE at h
  rw [if_pos h0] at h
  cases h; rfl
attribute [local irreducible] sbO muO adO dvO mkV in
set_option maxHeartbeats 3200000 in
theorem ok_warm0I (c : Int) : SpecOk Try.prog 27 (s_warm0 c) := by
  intro args S h; unfold s_warm0 at h ⊢; (split at h <;> first | exact False.elim h | skip)
  dsimp only at h ⊢
  rename_i up uq s n x yp yq l wr
  obtain ⟨⟨h1, hsc, hy⟩, hw⟩ := h
  have hL := seg_len h1
  have hsz := sc_sz hsc
  rw [hL] at hsz
  have hel := sc_el hsc
  have hys := smF_ok hy
  have hc := cmp10 hys
  have hs1 : smF (yp.natAbs : Int) yq := by unfold smF at hys ⊢; omega
  have hs2 : smF 1 10 := by unfold smF; omega
  by_cases h0 : 10 * (yp.natAbs : Int) > yq
  · obtain rfl := warm_far hw h0
    have hnc : decide (0 < cmpF (yp.natAbs : Int) yq 1 10) = true := decide_eq_true (hc.2 h0)
    refine funW tabOk (E := [(56, s_vScale), (37, s_fOk), (57, s_size), (38, s_cmp)]) ⟨ok_ValidScale, ok_ValidFrac, ok_size, ok_compare, trivial⟩ [(6, [(2, 0), (4, 0), (4, 1)]), (11, [(1, 1), (1, 2)])] (k := 1) (fn := Try.f27) rfl rfl rfl rfl rfl rfl ?_
    (repeat' ((try (conv => whnf)); first | (with_reducible first | refine And.intro ?_ ?_ | refine WX.of ?_ | exact VC.mk rfl | exact True.intro | exact VC.mk ⟨rfl, fun e => e⟩ | exact VC.mk ⟨fun e => e, rfl⟩ | exact VC.mk (Nat.le_refl _) | exact drawOk_i (by decide +kernel) (by decide +kernel) (by decide +kernel)) | ((with_reducible refine VC.mk ?_); first | (dsimp only; done) | omega | (congr 1; (try simp (disch := omega) only [w64]); omega) | exact ⟨rfl, rfl⟩ | (refine ⟨?_, ?_, ?_⟩; assumption; assumption; omega) | (refine ⟨Nat.le_trans (Nat.mul_le_mul_left _ (m := 1000) ?_) ?_, ?_⟩; decide; omega; omega)) | ((with_reducible refine splitT_of ?_ ?_); (focus (simp only [hsc, hy, hnc, Bool.not_true, Bool.not_false, decide_true, decide_false]; done))) | ((with_reducible refine splitF_of ?_ ?_); (focus (simp only [hsc, hy, hnc, Bool.not_true, Bool.not_false, decide_true, decide_false]; done))) | ((with_reducible refine VC.mk ?_); exact hys) | ((with_reducible refine VC.mk ?_); exact ⟨hs1, hs2⟩) | with_reducible refine splitT ?_ | with_reducible refine splitF ?_ | ((with_reducible refine splitB.mk (fun h => ?_) (fun h => ?_)) <;> (try simp only [decide_eq_true_eq, decide_eq_false_iff_not, ne_eq, Decidable.not_not, Int.not_lt, Int.not_le, Bool.not_eq_true', Bool.not_eq_false'] at h) <;> (try simp (disch := omega) only [w64] at h) <;> (try (exfalso; first | omega | exact h True.intro | (simp only [and_self, not_true_eq_false] at h; done) | (simp only [beq_self_eq_true, Bool.true_eq_false, reduceCtorEq] at h; done)))) | (with_reducible intro hz; (try exact absurd hz (Nat.succ_ne_zero _)))))
  · obtain ⟨rfl, hno⟩ := warm_no hw h0
    have hwm := wm_e (up, uq) (seg l s n) (yp, yq)
    obtain ⟨⟨fp, fq⟩, hF⟩ : ∃ v, v = tv (adO (1, 1) (yp, yq)) := ⟨_, rfl⟩
    obtain ⟨⟨w1, w2⟩, hW⟩ : ∃ v, v = tv (muO (up, uq) (fp, fq)) := ⟨_, rfl⟩
    obtain ⟨k, hk⟩ : ∃ k, k = (adO (1, 1) (yp, yq)).isSome := ⟨_, rfl⟩
    obtain ⟨k2, hk2⟩ : ∃ k, k = (muO (up, uq) (fp, fq)).isSome := ⟨_, rfl⟩
    rw [hno, ← hF, ← hW, ← hk, ← hk2] at hwm
    have hbad := hwm.1
    simp only [Option.isSome_none, Bool.not_false] at hbad
    have hfs : smF fp fq := by have := smF_ad (1, 1) (yp, yq); rw [← hF] at this; exact this
    have hlen : (wmE (fp, fq) (seg l s n)).length = n := by rw [wm_len, hL]
    have hE2 : seg (wmE (fp, fq) (seg l s n)) 0 n = wmE (fp, fq) (seg l s n) := seg_full hlen
    have hnc : decide (0 < cmpF (yp.natAbs : Int) yq 1 10) = false := decide_eq_false (by rw [hc]; exact h0)
    refine funW tabOk (E := [(56, s_vScale), (37, s_fOk), (57, s_size), (38, s_cmp), (26, s_num), (53, (s_addQ (fp, fq) k)), (54, s_mulO)]) ⟨ok_ValidScale, ok_ValidFrac, ok_size, ok_compare, ok_num, (ok_addQ (fp, fq) k), ok_mulO, trivial⟩ [(6, [(2, 0), (4, 0), (4, 1)]), (11, [(1, 1), (1, 2)])] (k := 1) (fn := Try.f27) rfl rfl rfl rfl rfl rfl ?_
    (repeat' ((try (conv => whnf)); first | (with_reducible first | refine And.intro ?_ ?_ | refine WX.of ?_ | exact VC.mk rfl | exact True.intro | exact VC.mk ⟨rfl, fun e => e⟩ | exact VC.mk ⟨fun e => e, rfl⟩ | exact VC.mk (Nat.le_refl _) | exact drawOk_i (by decide +kernel) (by decide +kernel) (by decide +kernel)) | ((with_reducible refine VC.mk ?_); first | (dsimp only; done) | omega | (congr 1; (try simp (disch := omega) only [w64]); omega) | exact ⟨rfl, rfl⟩ | (refine ⟨?_, ?_, ?_⟩; assumption; assumption; omega) | (refine ⟨Nat.le_trans (Nat.mul_le_mul_left _ (m := 1000) ?_) ?_, ?_⟩; decide; omega; omega)) | ((with_reducible refine splitT_of ?_ ?_); (focus (simp only [hsc, hy, hnc, Bool.not_true, Bool.not_false, decide_true, decide_false]; done))) | ((with_reducible refine splitF_of ?_ ?_); (focus (simp only [hsc, hy, hnc, Bool.not_true, Bool.not_false, decide_true, decide_false]; done))) | ((with_reducible refine VC.mk ?_); exact hys) | ((with_reducible refine VC.mk ?_); exact ⟨hs1, hs2⟩) | ((with_reducible refine VC.mk ?_); exact ⟨⟨rfl, smF_1 (by omega), hys⟩, hF.symm, hk.symm⟩) | ((with_reducible refine VC.mk ?_); exact ⟨rfl, smF_ok hsz.1, hfs⟩) | with_reducible refine splitT ?_ | with_reducible refine splitF ?_ | ((with_reducible refine splitB.mk (fun h => ?_) (fun h => ?_)) <;> (try simp only [decide_eq_true_eq, decide_eq_false_iff_not, ne_eq, Decidable.not_not, Int.not_lt, Int.not_le, Bool.not_eq_true', Bool.not_eq_false'] at h) <;> (try simp (disch := omega) only [w64] at h) <;> (try (exfalso; first | omega | exact h True.intro | (simp only [and_self, not_true_eq_false] at h; done) | (simp only [beq_self_eq_true, Bool.true_eq_false, reduceCtorEq] at h; done)))) | (with_reducible intro hz; (try exact absurd hz (Nat.succ_ne_zero _)))))
    refine loopW tabOk (E := [(56, s_vScale), (37, s_fOk), (57, s_size), (38, s_cmp), (26, s_num), (53, (s_addQ (fp, fq) k)), (54, s_mulO)]) ⟨ok_ValidScale, ok_ValidFrac, ok_size, ok_compare, ok_num, (ok_addQ (fp, fq) k), ok_mulO, trivial⟩ [(6, [(2, 0), (4, 0), (4, 1)]), (11, [(1, 1), (1, 2)])] (σ := Option Nat) (fun o => match o with
      | none => [(4, .ptr 1 0 0), (6, .ptr 2 0 0), (7, .ptr 3 0 0), (8, .ptr 4 0 0), (41, .sl 0 s n x), (42, .int .i64 n), (43, .int .i64 0)]
      | some i => [(4, .ptr 1 0 0), (6, .ptr 2 0 0), (7, .ptr 3 0 0), (8, .ptr 4 0 0), (41, .sl 0 s n x), (42, .int .i64 n), (43, .int .i64 i)]) (fun o => match o with
      | none => [.arr (.prod (.int .i64) (.int .i64)) l 2 wr, .box [.int .i64 0, .int .i64 0, .nils] true false, .arr .bool [!k || !k2] 0 true, .arr (.prod (.int .i64) (.int .i64)) [(fp, fq)] 0 true, .box [.int .i64 w1, .int .i64 w2, .nils] true false]
      | some i => [.arr (.prod (.int .i64) (.int .i64)) l 2 wr, .box [.int .i64 0, .int .i64 0, .nils] true false, .arr .bool [!k || !k2 || wmX (fp, fq) ((seg l s n).take i)] 0 true, .arr (.prod (.int .i64) (.int .i64)) [(fp, fq)] 0 true, .box [.int .i64 w1, .int .i64 w2, .sl 5 0 i 0] true false, .arr (.prod (.int .i64) (.int .i64)) ((wmE (fp, fq) (seg l s n)).take i) 2 true]) (fun o => match o with | none => n + 1 | some i => n - i) (fun o => match o with | none => True | some i => 1 ≤ i ∧ i ≤ n) none trivial ?_ ?_
    · (repeat' ((try (conv => whnf)); first | (with_reducible first | refine And.intro ?_ ?_ | refine WX.of ?_ | exact VC.mk rfl | exact True.intro | exact VC.mk ⟨rfl, fun e => e⟩ | exact VC.mk ⟨fun e => e, rfl⟩ | exact VC.mk (Nat.le_refl _) | exact drawOk_i (by decide +kernel) (by decide +kernel) (by decide +kernel)) | ((with_reducible refine VC.mk ?_); first | (dsimp only; done) | omega | (congr 1; (try simp (disch := omega) only [w64]); omega) | exact ⟨rfl, rfl⟩ | (refine ⟨?_, ?_, ?_⟩; assumption; assumption; omega) | (refine ⟨Nat.le_trans (Nat.mul_le_mul_left _ (m := 1000) ?_) ?_, ?_⟩; decide; omega; omega)) | with_reducible refine splitT ?_ | with_reducible refine splitF ?_ | ((with_reducible refine splitB.mk (fun h => ?_) (fun h => ?_)) <;> (try simp only [decide_eq_true_eq, decide_eq_false_iff_not, ne_eq, Decidable.not_not, Int.not_lt, Int.not_le, Bool.not_eq_true', Bool.not_eq_false'] at h) <;> (try simp (disch := omega) only [w64] at h) <;> (try (exfalso; first | omega | exact h True.intro | (simp only [and_self, not_true_eq_false] at h; done) | (simp only [beq_self_eq_true, Bool.true_eq_false, reduceCtorEq] at h; done)))) | (with_reducible intro hz; (try exact absurd hz (Nat.succ_ne_zero _)))))
      all_goals exact ⟨by simp [← hW, ← hk2]⟩
    · intro o hi
      cases o with
      | none =>
        obtain ⟨⟨p, q⟩, ha⟩ := get_some (l := seg l s n) (i := 0) (by omega)
        have hw2 := wm_get (f := (fp, fq)) ha
        (repeat' ((try (conv => whnf)); first | (with_reducible first | refine And.intro ?_ ?_ | refine WX.of ?_ | exact VC.mk rfl | exact True.intro | exact VC.mk ⟨rfl, fun e => e⟩ | exact VC.mk ⟨fun e => e, rfl⟩ | exact VC.mk (Nat.le_refl _) | exact drawOk_i (by decide +kernel) (by decide +kernel) (by decide +kernel)) | ((with_reducible refine VC.mk ?_); first | (dsimp only; done) | omega | (congr 1; (try simp (disch := omega) only [w64]); omega) | exact ⟨rfl, rfl⟩ | (refine ⟨?_, ?_, ?_⟩; assumption; assumption; omega) | (refine ⟨Nat.le_trans (Nat.mul_le_mul_left _ (m := 1000) ?_) ?_, ?_⟩; decide; omega; omega)) | refine atL_i ha ?_ | ((with_reducible refine VC.mk ?_); exact ⟨rfl, hel _ _ ha, hfs⟩) | with_reducible refine splitT ?_ | with_reducible refine splitF ?_ | ((with_reducible refine splitB.mk (fun h => ?_) (fun h => ?_)) <;> (try simp only [decide_eq_true_eq, decide_eq_false_iff_not, ne_eq, Decidable.not_not, Int.not_lt, Int.not_le, Bool.not_eq_true', Bool.not_eq_false'] at h) <;> (try simp (disch := omega) only [w64] at h) <;> (try (exfalso; first | omega | exact h True.intro | (simp only [and_self, not_true_eq_false] at h; done) | (simp only [beq_self_eq_true, Bool.true_eq_false, reduceCtorEq] at h; done)))) | (with_reducible intro hz; (try exact absurd hz (Nat.succ_ne_zero _)))))
        refine ⟨some 1, by dsimp only; omega, ⟨by omega, by omega⟩, ?_⟩
        (repeat' ((try (conv => whnf)); first | (with_reducible first | refine And.intro ?_ ?_ | refine WX.of ?_ | exact VC.mk rfl | exact True.intro | exact VC.mk ⟨rfl, fun e => e⟩ | exact VC.mk ⟨fun e => e, rfl⟩ | exact VC.mk (Nat.le_refl _) | exact drawOk_i (by decide +kernel) (by decide +kernel) (by decide +kernel)) | ((with_reducible refine VC.mk ?_); first | (dsimp only; done) | omega | (congr 1; (try simp (disch := omega) only [w64]); omega) | exact ⟨rfl, rfl⟩ | (refine ⟨?_, ?_, ?_⟩; assumption; assumption; omega) | (refine ⟨Nat.le_trans (Nat.mul_le_mul_left _ (m := 1000) ?_) ?_, ?_⟩; decide; omega; omega)) | with_reducible refine splitT ?_ | with_reducible refine splitF ?_ | ((with_reducible refine splitB.mk (fun h => ?_) (fun h => ?_)) <;> (try simp only [decide_eq_true_eq, decide_eq_false_iff_not, ne_eq, Decidable.not_not, Int.not_lt, Int.not_le, Bool.not_eq_true', Bool.not_eq_false'] at h) <;> (try simp (disch := omega) only [w64] at h) <;> (try (exfalso; first | omega | exact h True.intro | (simp only [and_self, not_true_eq_false] at h; done) | (simp only [beq_self_eq_true, Bool.true_eq_false, reduceCtorEq] at h; done)))) | (with_reducible intro hz; (try exact absurd hz (Nat.succ_ne_zero _)))))
        · exact ⟨by unfold wmX; rw [show (1 : Nat) = 0 + 1 from rfl, any_snoc ha]; simp⟩
        · exact ⟨by rw [app_0 hw2]⟩
      | some i =>
        dsimp only at hi ⊢
        have hlen2 : ((wmE (fp, fq) (seg l s n)).take i).length = i := by rw [List.length_take, hlen]; omega
        by_cases hlt : i < n
        · obtain ⟨⟨p, q⟩, ha⟩ := get_some (l := seg l s n) (i := i) (by omega)
          have hw2 := wm_get (f := (fp, fq)) ha
          (repeat' ((try (conv => whnf)); first | (with_reducible first | refine And.intro ?_ ?_ | refine WX.of ?_ | exact VC.mk rfl | exact True.intro | exact VC.mk ⟨rfl, fun e => e⟩ | exact VC.mk ⟨fun e => e, rfl⟩ | exact VC.mk (Nat.le_refl _) | exact drawOk_i (by decide +kernel) (by decide +kernel) (by decide +kernel)) | ((with_reducible refine VC.mk ?_); first | (dsimp only; done) | omega | (congr 1; (try simp (disch := omega) only [w64]); omega) | exact ⟨rfl, rfl⟩ | (refine ⟨?_, ?_, ?_⟩; assumption; assumption; omega) | (refine ⟨Nat.le_trans (Nat.mul_le_mul_left _ (m := 1000) ?_) ?_, ?_⟩; decide; omega; omega)) | refine atL_i ha ?_ | ((with_reducible refine VC.mk ?_); exact ⟨rfl, hel _ _ ha, hfs⟩) | with_reducible refine splitT ?_ | with_reducible refine splitF ?_ | ((with_reducible refine splitB.mk (fun h => ?_) (fun h => ?_)) <;> (try simp only [decide_eq_true_eq, decide_eq_false_iff_not, ne_eq, Decidable.not_not, Int.not_lt, Int.not_le, Bool.not_eq_true', Bool.not_eq_false'] at h) <;> (try simp (disch := omega) only [w64] at h) <;> (try (exfalso; first | omega | exact h True.intro | (simp only [and_self, not_true_eq_false] at h; done) | (simp only [beq_self_eq_true, Bool.true_eq_false, reduceCtorEq] at h; done)))) | (with_reducible intro hz; (try exact absurd hz (Nat.succ_ne_zero _)))))
          refine ⟨some (i + 1), by dsimp only; omega, ⟨by omega, by omega⟩, ?_⟩
          (repeat' ((try (conv => whnf)); first | (with_reducible first | refine And.intro ?_ ?_ | refine WX.of ?_ | exact VC.mk rfl | exact True.intro | exact VC.mk ⟨rfl, fun e => e⟩ | exact VC.mk ⟨fun e => e, rfl⟩ | exact VC.mk (Nat.le_refl _) | exact drawOk_i (by decide +kernel) (by decide +kernel) (by decide +kernel)) | ((with_reducible refine VC.mk ?_); first | (dsimp only; done) | omega | (congr 1; (try simp (disch := omega) only [w64]); omega) | exact ⟨rfl, rfl⟩ | (refine ⟨?_, ?_, ?_⟩; assumption; assumption; omega) | (refine ⟨Nat.le_trans (Nat.mul_le_mul_left _ (m := 1000) ?_) ?_, ?_⟩; decide; omega; omega)) | with_reducible refine splitT ?_ | with_reducible refine splitF ?_ | ((with_reducible refine splitB.mk (fun h => ?_) (fun h => ?_)) <;> (try simp only [decide_eq_true_eq, decide_eq_false_iff_not, ne_eq, Decidable.not_not, Int.not_lt, Int.not_le, Bool.not_eq_true', Bool.not_eq_false'] at h) <;> (try simp (disch := omega) only [w64] at h) <;> (try (exfalso; first | omega | exact h True.intro | (simp only [and_self, not_true_eq_false] at h; done) | (simp only [beq_self_eq_true, Bool.true_eq_false, reduceCtorEq] at h; done)))) | (with_reducible intro hz; (try exact absurd hz (Nat.succ_ne_zero _)))))
          · exact ⟨by unfold wmX; rw [any_snoc ha, Bool.or_assoc]⟩
          · exact ⟨app_take hw2⟩
        · obtain rfl : i = n := by omega
          rw [List.take_of_length_le (by omega), List.take_of_length_le (by omega)]
          (repeat' ((try (conv => whnf)); first | (with_reducible first | refine And.intro ?_ ?_ | refine WX.of ?_ | exact VC.mk rfl | exact True.intro | exact VC.mk ⟨rfl, fun e => e⟩ | exact VC.mk ⟨fun e => e, rfl⟩ | exact VC.mk (Nat.le_refl _) | exact drawOk_i (by decide +kernel) (by decide +kernel) (by decide +kernel)) | ((with_reducible refine VC.mk ?_); first | (dsimp only; done) | omega | (congr 1; (try simp (disch := omega) only [w64]); omega) | exact ⟨rfl, rfl⟩ | (refine ⟨?_, ?_, ?_⟩; assumption; assumption; omega) | (refine ⟨Nat.le_trans (Nat.mul_le_mul_left _ (m := 1000) ?_) ?_, ?_⟩; decide; omega; omega)) | ((with_reducible refine VC.mk ?_); exact ⟨by omega, by omega⟩) | with_reducible refine splitT ?_ | with_reducible refine splitF ?_ | ((with_reducible refine splitB.mk (fun h => ?_) (fun h => ?_)) <;> (try simp only [decide_eq_true_eq, decide_eq_false_iff_not, ne_eq, Decidable.not_not, Int.not_lt, Int.not_le, Bool.not_eq_true', Bool.not_eq_false'] at h) <;> (try simp (disch := omega) only [w64] at h) <;> (try (exfalso; first | omega | exact h True.intro | (simp only [and_self, not_true_eq_false] at h; done) | (simp only [beq_self_eq_true, Bool.true_eq_false, reduceCtorEq] at h; done)))) | (with_reducible intro hz; (try exact absurd hz (Nat.succ_ne_zero _)))))
          all_goals (exfalso; rename_i h9; rw [hE2] at h; rw [h, h9] at hbad; simp at hbad)
end Go.Proofs.Ytbmejhabgoimeaa.Eng
