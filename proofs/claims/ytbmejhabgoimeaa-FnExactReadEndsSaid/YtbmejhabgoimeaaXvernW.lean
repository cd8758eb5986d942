/- vernW: lemmas for the proof, no conditions of their own. -/
import Derived.Test.YtbmejhabgoimeaaXvernU
import Derived.Test.YtbmejhabgoimeaaXvernR
set_option linter.unusedVariables false
set_option linter.unusedSimpArgs false
namespace Go.Proofs.Ytbmejhabgoimeaa.Eng
open Go Go.RowKit
set_option maxRecDepth 100000
def s_nearN : Spec := fun args S => match args, S with
  | [.agg [.int .i64 rp, .int .i64 rq], .agg [.int .i64 up, .int .i64 uq]], [] => ⟨smF rp rq ∧ smF up uq ∧ 0 < up, .int .i64 (nrN (rp, rq) (up, uq)), []⟩
  | _, _ => noSpec
theorem ok_l01Near : SpecOk Try.prog 86 s_nearN := by
  intro args S h; unfold s_nearN at h ⊢; (split at h <;> first | exact False.elim h | skip)
  dsimp only at h ⊢
  rename_i rp rq up uq
  obtain ⟨hr, hu, h0⟩ := h
  have hw := near_w (r := (rp, rq)) (u := (up, uq)) hr hu h0
  have hb := near_b (r := (rp, rq)) (u := (up, uq)) hr hu h0
  dsimp only at hw hb
  refine funW tabOk (E := [(109, s_floor)]) ⟨ok_l01Down, trivial⟩ [] (k := 0) (fn := Try.f86) rfl rfl rfl rfl rfl rfl ?_
  (repeat' ((try (conv => whnf)); first | (with_reducible first | refine And.intro ?_ ?_ | refine WX.of ?_ | exact VC.mk rfl | exact True.intro | exact VC.mk ⟨rfl, fun e => e⟩ | exact VC.mk ⟨fun e => e, rfl⟩ | exact VC.mk (Nat.le_refl _) | exact drawOk_i (by decide +kernel) (by decide +kernel) (by decide +kernel)) | ((with_reducible refine VC.mk ?_); first | (dsimp only; done) | omega | (congr 1; (try simp (disch := omega) only [w64]); omega) | exact ⟨rfl, rfl⟩ | (refine ⟨?_, ?_, ?_⟩; assumption; assumption; omega) | (refine ⟨Nat.le_trans (Nat.mul_le_mul_left _ (m := 1000) ?_) ?_, ?_⟩; decide; omega; omega)) | ((with_reducible refine VC.mk ?_); (simp only [hw.1, hw.2]); (simp (disch := omega) only [w64]); omega) | with_reducible refine splitT ?_ | with_reducible refine splitF ?_ | ((with_reducible refine splitB.mk (fun h => ?_) (fun h => ?_)) <;> (try simp only [decide_eq_true_eq, decide_eq_false_iff_not, ne_eq, Decidable.not_not, Int.not_lt, Int.not_le, Bool.not_eq_true', Bool.not_eq_false'] at h) <;> (try simp (disch := omega) only [w64] at h) <;> (try (exfalso; first | omega | exact h True.intro | (simp only [and_self, not_true_eq_false] at h; done) | (simp only [beq_self_eq_true, Bool.true_eq_false, reduceCtorEq] at h; done)))) | (with_reducible intro hz; (try exact absurd hz (Nat.succ_ne_zero _)))))
  all_goals (refine ⟨?_⟩; simp only [hw.1, hw.2]; simp (disch := omega) only [w64]; rfl)
def s_intg : Spec := fun args S => match args, S with
  | [.int .i64 n], [] => ⟨True, .tup [.int .i64 (if -1000000000 ≤ n ∧ n ≤ 1000000000 then n else 0), .int .i64 (if -1000000000 ≤ n ∧ n ≤ 1000000000 then 0 else 3)], []⟩
  | _, _ => noSpec
theorem ok_l01Integer : SpecOk Try.prog 85 s_intg := by
  intro args S h; unfold s_intg at h ⊢; (split at h <;> first | exact False.elim h | skip)
  dsimp only at h ⊢
  rename_i n
  refine funW tabOk (E := [(78, s_within)]) ⟨ok_l00In, trivial⟩ [] (k := 0) (fn := Try.f85) rfl rfl rfl rfl rfl rfl ?_
  (repeat' ((try (conv => whnf)); first | (with_reducible first | refine And.intro ?_ ?_ | refine WX.of ?_ | exact VC.mk rfl | exact True.intro | exact VC.mk ⟨rfl, fun e => e⟩ | exact VC.mk ⟨fun e => e, rfl⟩ | exact VC.mk (Nat.le_refl _) | exact drawOk_i (by decide +kernel) (by decide +kernel) (by decide +kernel)) | ((with_reducible refine VC.mk ?_); first | (dsimp only; done) | omega | (congr 1; (try simp (disch := omega) only [w64]); omega) | exact ⟨rfl, rfl⟩ | (refine ⟨?_, ?_, ?_⟩; assumption; assumption; omega) | (refine ⟨Nat.le_trans (Nat.mul_le_mul_left _ (m := 1000) ?_) ?_, ?_⟩; decide; omega; omega)) | with_reducible refine splitT ?_ | with_reducible refine splitF ?_ | ((with_reducible refine splitB.mk (fun h => ?_) (fun h => ?_)) <;> (try simp only [decide_eq_true_eq, decide_eq_false_iff_not, ne_eq, Decidable.not_not, Int.not_lt, Int.not_le, Bool.not_eq_true', Bool.not_eq_false'] at h) <;> (try simp (disch := omega) only [w64] at h) <;> (try (exfalso; first | omega | exact h True.intro | (simp only [and_self, not_true_eq_false] at h; done) | (simp only [beq_self_eq_true, Bool.true_eq_false, reduceCtorEq] at h; done)))) | (with_reducible intro hz; (try exact absurd hz (Nat.succ_ne_zero _)))))
  · exact ⟨by rw [if_neg (by omega), if_neg (by omega)]⟩
  · exact ⟨by rw [if_pos h, if_pos h]⟩
theorem splitI {n : Int} {A B : Prop} (h1 : ¬ (-1000000000 ≤ n ∧ n ≤ 1000000000) → A) (h2 : (-1000000000 ≤ n ∧ n ≤ 1000000000) → B) : splitB (decide ((if -1000000000 ≤ n ∧ n ≤ 1000000000 then (0 : Int) else 3) ≠ 0)) A B := by
  by_cases h : -1000000000 ≤ n ∧ n ≤ 1000000000
  · rw [if_pos h]; exact ⟨fun e => by simp at e, fun _ => h2 h⟩
  · rw [if_neg h]; exact ⟨fun _ => h1 h, fun e => by simp at e⟩
theorem dv_small {g vp : Int} (hv : 2 ≤ vp ∧ vp ≤ 40) (hg : 0 ≤ g ∧ g ≤ 40) : ∃ v, dvO (g, 1) (vp, 1) = some v := by
  unfold dvO
  rw [if_neg (by dsimp only; omega)]
  have h := redOk_small (p := g * 1) (q := 1 * vp) (by omega) (by omega)
  exact ⟨_, rO_s h⟩
def s_l02ReadV : Spec := fun args S => match args, S with
  | [.ptr 0 0 0, .ptr 1 0 3, .agg [.int .i64 xp, .int .i64 xq]], [.box [.int .i64 up, .int .i64 uq, .sl 2 s n x] true false, .box [.int .i64 ap, .int .i64 aq, .sl 3 s' n' x', .int .i64 vp, .bool vb, .int .i64 gp, .int .i64 gq, .sl 4 t m y] true false, .arr (.prod (.int .i64) (.int .i64)) l 2 wr, .arr (.prod (.int .i64) (.int .i64)) l' 2 wr', .arr (.prod .str (.prod (.prod (.int .i64) (.int .i64)) (.prod (.int .i64) (.int .i64)))) T 5 wT] => ⟨s + n ≤ l.length ∧ scB up uq (seg l s n) = true ∧ (2 ≤ vp ∧ vp ≤ 40) ∧ smF xp xq, .tup [.agg [.int .i64 (eV (0, 0) (readE (up, uq) (seg l s n) vp vb (xp, xq))).1, .int .i64 (eV (0, 0) (readE (up, uq) (seg l s n) vp vb (xp, xq))).2], .int .i64 (eC (readE (up, uq) (seg l s n) vp vb (xp, xq)))], [.box [.int .i64 up, .int .i64 uq, .sl 2 s n x] true false, .box [.int .i64 ap, .int .i64 aq, .sl 3 s' n' x', .int .i64 vp, .bool vb, .int .i64 gp, .int .i64 gq, .sl 4 t m y] true false, .arr (.prod (.int .i64) (.int .i64)) l 2 wr, .arr (.prod (.int .i64) (.int .i64)) l' 2 wr', .arr (.prod .str (.prod (.prod (.int .i64) (.int .i64)) (.prod (.int .i64) (.int .i64)))) T 5 wT]⟩
  | _, _ => noSpec
/-- The line that fits is known. -/
def s_fitP (f : Int) : Spec := fun args S => match args, S with
  | [.ptr 0 0 0, .ptr 1 0 3, .agg [.int .i64 xp, .int .i64 xq]], [.box [.int .i64 up, .int .i64 uq, .sl 2 s n x] true false, .box [.int .i64 ap, .int .i64 aq, .sl 3 s' n' x', .int .i64 vp, .bool vb, .int .i64 gp, .int .i64 gq, .sl 4 t m y] true false, .arr (.prod (.int .i64) (.int .i64)) l 2 wr, .arr (.prod (.int .i64) (.int .i64)) l' 2 wr', .arr (.prod .str (.prod (.prod (.int .i64) (.int .i64)) (.prod (.int .i64) (.int .i64)))) T 5 wT] => ⟨(s + n ≤ l.length ∧ scB up uq (seg l s n) = true ∧ (2 ≤ vp ∧ vp ≤ 40) ∧ smF xp xq) ∧ fitE (up, uq) (seg l s n) vp vb (xp, xq) = .ok f, .tup [.int .i64 f, .int .i64 0], [.box [.int .i64 up, .int .i64 uq, .sl 2 s n x] true false, .box [.int .i64 ap, .int .i64 aq, .sl 3 s' n' x', .int .i64 vp, .bool vb, .int .i64 gp, .int .i64 gq, .sl 4 t m y] true false, .arr (.prod (.int .i64) (.int .i64)) l 2 wr, .arr (.prod (.int .i64) (.int .i64)) l' 2 wr', .arr (.prod .str (.prod (.prod (.int .i64) (.int .i64)) (.prod (.int .i64) (.int .i64)))) T 5 wT]⟩
  | _, _ => noSpec
theorem ok_fitP (f : Int) : SpecOk Try.prog 84 (s_fitP f) := by
  intro args S h; unfold s_fitP at h ⊢; (split at h <;> first | exact False.elim h | skip)
  dsimp only at h ⊢
  rename_i xp xq up uq s n x ap aq s' n' x' vp vb gp gq t m y l wr l' wr' T wT
  have h2 := ok_l02FitV [.ptr 0 0 0, .ptr 1 0 3, .agg [.int .i64 xp, .int .i64 xq]] [.box [.int .i64 up, .int .i64 uq, .sl 2 s n x] true false, .box [.int .i64 ap, .int .i64 aq, .sl 3 s' n' x', .int .i64 vp, .bool vb, .int .i64 gp, .int .i64 gq, .sl 4 t m y] true false, .arr (.prod (.int .i64) (.int .i64)) l 2 wr, .arr (.prod (.int .i64) (.int .i64)) l' 2 wr', .arr (.prod .str (.prod (.prod (.int .i64) (.int .i64)) (.prod (.int .i64) (.int .i64)))) T 5 wT] h.1
  simp only [s_l02FitV, h.2, eV, eC] at h2
  exact h2
def s_divP (v : FrT) : Spec := fun args S => match args, S with
  | [.agg [.int .i64 p, .int .i64 q], .agg [.int .i64 p', .int .i64 q']], [] => ⟨(smF p q ∧ smF p' q' ∧ p' ≠ 0) ∧ dvO (p, q) (p', q') = some v, .tup [.agg [.int .i64 v.1, .int .i64 v.2], .int .i64 0], []⟩
  | _, _ => noSpec
theorem ok_divP (v : FrT) : SpecOk Try.prog 49 (s_divP v) := by
  intro args S h; unfold s_divP at h ⊢; (split at h <;> first | exact False.elim h | skip)
  dsimp only at h ⊢
  rename_i p q p' q'
  have h2 := ok_l01DivZ [.agg [.int .i64 p, .int .i64 q], .agg [.int .i64 p', .int .i64 q']] [] h.1
  simp only [s_divZ, h.2, zv_s, oC, Option.isSome_some, if_true] at h2
  exact h2
theorem rv_0 {u : FrT} {vp : Int} {vb : Bool} {x : FrT} {f : Int} {sh : FrT} (hs : dvO (fln vp vb f, 1) (vp, 1) = some sh) : rvO u vp vb x f = (muO sh u).bind fun p => (sbO x p).bind fun r => if -1000000000 ≤ nrN r u ∧ nrN r u ≤ 1000000000 then (muO (nrN r u, 1) u).bind fun w => adO p w else none := by
  unfold rvO; rw [hs]; rfl
theorem ofO_tup (o : Option FrT) : SV.tup [.agg [.int .i64 (zv o).1, .int .i64 (zv o).2], .int .i64 (oC o)] = SV.tup [.agg [.int .i64 (eV (0, 0) (ofO o)).1, .int .i64 (eV (0, 0) (ofO o)).2], .int .i64 (eC (ofO o))] := by cases o <;> rfl
attribute [local irreducible] sbO muO adO dvO mkV fitE rvO nrN in
set_option maxHeartbeats 3200000 in
theorem ok_l02ReadV : SpecOk Try.prog 48 s_l02ReadV := by
  intro args S h; unfold s_l02ReadV at h ⊢; (split at h <;> first | exact False.elim h | skip)
  dsimp only at h ⊢
  rename_i xp xq up uq s n x ap aq s' n' x' vp vb gp gq t m y l wr l' wr' T wT
  have hq := h
  obtain ⟨h1, hsc, hv, hx⟩ := h
  have hsz := sc_sz hsc
  have hu := smF_ok hsz.1
  have hup := hsz.2.1.1
  unfold readE
  cases hf : fitE (up, uq) (seg l s n) vp vb (xp, xq) with
  | error c =>
    have hc : c ≠ 0 := enz_fit _ _ _ _ _ c hf
    refine funW tabOk (E := [(84, s_l02FitV)]) ⟨ok_l02FitV, trivial⟩ [(6, [(5, 0), (11, 0), (11, 1), (11, 2)]), (7, [(9, 0)]), (16, [(5, 0), (10, 0), (10, 1)])] (k := 5) (fn := Try.f48) rfl rfl rfl rfl rfl rfl ?_
    (repeat' ((try (conv => whnf)); first | (with_reducible first | refine And.intro ?_ ?_ | refine WX.of ?_ | exact VC.mk rfl | exact True.intro | exact VC.mk ⟨rfl, fun e => e⟩ | exact VC.mk ⟨fun e => e, rfl⟩ | exact VC.mk (Nat.le_refl _) | exact drawOk_i (by decide +kernel) (by decide +kernel) (by decide +kernel)) | ((with_reducible refine VC.mk ?_); first | (dsimp only; done) | omega | (congr 1; (try simp (disch := omega) only [w64]); omega) | exact ⟨rfl, rfl⟩ | (refine ⟨?_, ?_, ?_⟩; assumption; assumption; omega) | (refine ⟨Nat.le_trans (Nat.mul_le_mul_left _ (m := 1000) ?_) ?_, ?_⟩; decide; omega; omega)) | ((with_reducible refine VC.mk ?_); exact hq) | ((with_reducible refine splitT_of ?_ ?_); (focus (rw [hf]; exact decide_eq_true hc))) | with_reducible refine splitT ?_ | with_reducible refine splitF ?_ | ((with_reducible refine splitB.mk (fun h => ?_) (fun h => ?_)) <;> (try simp only [decide_eq_true_eq, decide_eq_false_iff_not, ne_eq, Decidable.not_not, Int.not_lt, Int.not_le, Bool.not_eq_true', Bool.not_eq_false'] at h) <;> (try simp (disch := omega) only [w64] at h) <;> (try (exfalso; first | omega | exact h True.intro | (simp only [and_self, not_true_eq_false] at h; done) | (simp only [beq_self_eq_true, Bool.true_eq_false, reduceCtorEq] at h; done)))) | (with_reducible intro hz; (try exact absurd hz (Nat.succ_ne_zero _)))))
    all_goals (rw [hf]; exact ⟨rfl⟩)
  | ok f =>
    have hfb := fit_b hv.1 hf
    have hw3 : IntKind.i64.wrap (vp - f) = vp - f := w64 (by omega)
    have hg : 0 ≤ fln vp vb f ∧ fln vp vb f ≤ 40 := by unfold fln; split <;> omega
    obtain ⟨⟨sp, sq⟩, hsh⟩ := dv_small hv hg
    have hshs : smF sp sq := by have := smF_dv (fln vp vb f, 1) (vp, 1); rw [hsh] at this; exact this
    have hvs : smF vp 1 := smF_1 (by omega)
    have ht1 : vb = true → ¬ f = 0 → dvO (IntKind.i64.wrap (vp - f), 1) (vp, 1) = some (sp, sq) := fun a b => by rw [← hsh, hw3]; unfold fln; rw [if_pos ⟨a, b⟩]
    have ht2 : f = 0 → dvO (f, 1) (vp, 1) = some (sp, sq) := fun a => by rw [← hsh]; unfold fln; rw [if_neg (fun e => e.2 a)]
    have ht3 : vb = false → dvO (f, 1) (vp, 1) = some (sp, sq) := fun a => by rw [← hsh]; unfold fln; rw [if_neg (fun e => by rw [a] at e; exact absurd e.1 (by decide))]
    have hr := rv_0 (u := (up, uq)) (x := (xp, xq)) hsh
    show RunsS _ _ _ _ (.tup [.agg [.int .i64 (eV (0, 0) (ofO (rvO (up, uq) vp vb (xp, xq) f))).1, .int .i64 (eV (0, 0) (ofO (rvO (up, uq) vp vb (xp, xq) f))).2], .int .i64 (eC (ofO (rvO (up, uq) vp vb (xp, xq) f)))]) _
    rw [hr]
    refine funW tabOk (E := [(84, (s_fitP f)), (46, s_num), (49, (s_divP (sp, sq))), (81, s_mulZ), (45, s_subZ), (86, s_nearN), (85, s_intg), (82, s_addZ)]) ⟨(ok_fitP f), ok_l01Whole, (ok_divP (sp, sq)), ok_l01MulZ, ok_l01SubZ, ok_l01Near, ok_l01Integer, ok_l01AddZ, trivial⟩ [(6, [(5, 0), (11, 0), (11, 1), (11, 2)]), (7, [(9, 0)]), (16, [(5, 0), (10, 0), (10, 1)])] (k := 5) (fn := Try.f48) rfl rfl rfl rfl rfl rfl ?_
    (repeat' ((try (conv => whnf)); first | (with_reducible first | refine And.intro ?_ ?_ | refine WX.of ?_ | exact VC.mk rfl | exact True.intro | exact VC.mk ⟨rfl, fun e => e⟩ | exact VC.mk ⟨fun e => e, rfl⟩ | exact VC.mk (Nat.le_refl _) | exact drawOk_i (by decide +kernel) (by decide +kernel) (by decide +kernel)) | ((with_reducible refine VC.mk ?_); first | (dsimp only; done) | omega | (congr 1; (try simp (disch := omega) only [w64]); omega) | exact ⟨rfl, rfl⟩ | (refine ⟨?_, ?_, ?_⟩; assumption; assumption; omega) | (refine ⟨Nat.le_trans (Nat.mul_le_mul_left _ (m := 1000) ?_) ?_, ?_⟩; decide; omega; omega)) | ((with_reducible refine VC.mk ?_); exact ⟨hq, hf⟩) | ((with_reducible refine VC.mk ?_); exact ⟨⟨smF_1 (by rw [hw3]; omega), hvs, (by omega)⟩, ht1 (by assumption) (by assumption)⟩) | ((with_reducible refine VC.mk ?_); exact ⟨⟨smF_1 (by omega), hvs, (by omega)⟩, ht2 (by assumption)⟩) | ((with_reducible refine VC.mk ?_); exact ⟨⟨smF_1 (by omega), hvs, (by omega)⟩, ht3 (by assumption)⟩) | ((with_reducible refine VC.mk ?_); exact ⟨hshs, hu⟩) | ((with_reducible refine VC.mk ?_); exact ⟨hx, (by assumption)⟩) | ((with_reducible refine VC.mk ?_); exact ⟨(by assumption), hu, hup⟩) | ((with_reducible refine VC.mk ?_); exact ⟨smF_1 (by assumption), hu⟩) | ((with_reducible refine VC.mk ?_); exact ⟨(by assumption), (by assumption)⟩) | ((with_reducible refine splitO (by first  |  exact okO_sb _ _  |  exact okO_mu _ _  |  exact okO_ad _ _  |  exact okO_dv _ _  |  exact okO_bind _ _ fun _ => okO_ad _ _  |  exact okO_sb _ _) (fun h => ?_) (fun a b h hs => ?_)) <;> (try rw [h]) <;> (try simp only [zv_s] at h) <;> (try dsimp only at h)) | ((with_reducible refine splitI (fun h => ?_) (fun h => ?_)) <;> (repeat (first  |  rw [if_pos h]  |  rw [if_neg h])) <;> (try simp only [zv_s] at h)) | with_reducible refine splitT ?_ | with_reducible refine splitF ?_ | ((with_reducible refine splitB.mk (fun h => ?_) (fun h => ?_)) <;> (try simp only [decide_eq_true_eq, decide_eq_false_iff_not, ne_eq, Decidable.not_not, Int.not_lt, Int.not_le, Bool.not_eq_true', Bool.not_eq_false'] at h) <;> (try simp (disch := omega) only [w64] at h) <;> (try (exfalso; first | omega | exact h True.intro | (simp only [and_self, not_true_eq_false] at h; done) | (simp only [beq_self_eq_true, Bool.true_eq_false, reduceCtorEq] at h; done)))) | (with_reducible intro hz; (try exact absurd hz (Nat.succ_ne_zero _)))))
    all_goals (refine ⟨?_⟩; simp only [zv_s] at *; (try simp only [*, Option.bind_some, Option.bind_none, and_self, if_true, if_false]); first | done | rfl | exact ofO_tup _)
end Go.Proofs.Ytbmejhabgoimeaa.Eng
