/- vernU: lemmas for the proof, no conditions of their own. -/
import Derived.Test.YtbmejhabgoimeaaXvernT
set_option linter.unusedVariables false
set_option linter.unusedSimpArgs false
namespace Go.Proofs.Ytbmejhabgoimeaa.Eng
open Go Go.RowKit
set_option maxRecDepth 100000
def s_l02LineV : Spec := fun args S => match args, S with
  | [.ptr 0 0 0, .ptr 1 0 3, .agg [.int .i64 xp, .int .i64 xq], .int .i64 i], [.box [.int .i64 up, .int .i64 uq, .sl 2 s n x] true false, .box [.int .i64 ap, .int .i64 aq, .sl 3 s' n' x', .int .i64 vp, .bool vb, .int .i64 gp, .int .i64 gq, .sl 4 t m y] true false, .arr (.prod (.int .i64) (.int .i64)) l 2 wr, .arr (.prod (.int .i64) (.int .i64)) l' 2 wr', .arr (.prod .str (.prod (.prod (.int .i64) (.int .i64)) (.prod (.int .i64) (.int .i64)))) T 5 wT] => ⟨smF up uq ∧ (2 ≤ vp ∧ vp ≤ 40) ∧ (0 ≤ i ∧ i ≤ 40) ∧ smF xp xq, .tup [.agg [.int .i64 (zv (lnO' (up, uq) vp vb (xp, xq) i)).1, .int .i64 (zv (lnO' (up, uq) vp vb (xp, xq) i)).2], .int .i64 (oC (lnO' (up, uq) vp vb (xp, xq) i))], [.box [.int .i64 up, .int .i64 uq, .sl 2 s n x] true false, .box [.int .i64 ap, .int .i64 aq, .sl 3 s' n' x', .int .i64 vp, .bool vb, .int .i64 gp, .int .i64 gq, .sl 4 t m y] true false, .arr (.prod (.int .i64) (.int .i64)) l 2 wr, .arr (.prod (.int .i64) (.int .i64)) l' 2 wr', .arr (.prod .str (.prod (.prod (.int .i64) (.int .i64)) (.prod (.int .i64) (.int .i64)))) T 5 wT]⟩
  | _, _ => noSpec
attribute [local irreducible] sbO muO adO dvO mkV in
set_option maxHeartbeats 1600000 in
theorem ok_l02LineV : SpecOk Try.prog 107 s_l02LineV := by
  intro args S h; unfold s_l02LineV at h ⊢; (split at h <;> first | exact False.elim h | skip)
  dsimp only at h ⊢
  rename_i xp xq i up uq s n x ap aq s' n' x' vp vb gp gq t m y l wr l' wr' T wT
  obtain ⟨hu, hv, hi, hx⟩ := h
  have hs := stp_b vb hv hi
  unfold lnO'
  cases vb
  all_goals
    simp only [stp, if_true, if_false, Bool.false_eq_true] at hs ⊢
    refine funW tabOk (E := [(46, s_num), (81, s_mulZ), (49, s_divZ), (82, s_addZ)]) ⟨ok_l01Whole, ok_l01MulZ, ok_l01DivZ, ok_l01AddZ, trivial⟩ [(4, [(7, 0), (12, 0), (12, 1)]), (7, [(0, 1), (10, 0), (10, 1)])] (k := 5) (fn := Try.f107) rfl rfl rfl rfl rfl rfl ?_
    (repeat' ((try (conv => whnf)); first | (with_reducible first | refine And.intro ?_ ?_ | refine WX.of ?_ | exact VC.mk rfl | exact True.intro | exact VC.mk ⟨rfl, fun e => e⟩ | exact VC.mk ⟨fun e => e, rfl⟩ | exact VC.mk (Nat.le_refl _) | exact drawOk_i (by decide +kernel) (by decide +kernel) (by decide +kernel)) | ((with_reducible refine VC.mk ?_); first | (dsimp only; done) | omega | (congr 1; (try simp (disch := omega) only [w64]); omega) | exact ⟨rfl, rfl⟩ | (refine ⟨?_, ?_, ?_⟩; assumption; assumption; omega) | (refine ⟨Nat.le_trans (Nat.mul_le_mul_left _ (m := 1000) ?_) ?_, ?_⟩; decide; omega; omega)) | ((with_reducible refine VC.mk ?_); (try dsimp only); (try simp (disch := omega) only [w64]); first  |  exact ⟨smF_1 (by omega), hu⟩  |  exact ⟨(by assumption), smF_1 (by omega), by omega⟩  |  exact ⟨hx, (by assumption)⟩) | ((with_reducible refine splitO (by first  |  exact okO_sb _ _  |  exact okO_mu _ _  |  exact okO_ad _ _  |  exact okO_dv _ _  |  exact okO_bind _ _ fun _ => okO_ad _ _  |  exact okO_sb _ _) (fun h => ?_) (fun a b h hs => ?_)) <;> (try rw [h]) <;> (try simp only [zv_s] at h) <;> (try dsimp only at h)) | with_reducible refine splitT ?_ | with_reducible refine splitF ?_ | ((with_reducible refine splitB.mk (fun h => ?_) (fun h => ?_)) <;> (try simp only [decide_eq_true_eq, decide_eq_false_iff_not, ne_eq, Decidable.not_not, Int.not_lt, Int.not_le, Bool.not_eq_true', Bool.not_eq_false'] at h) <;> (try simp (disch := omega) only [w64] at h) <;> (try (exfalso; first | omega | exact h True.intro | (simp only [and_self, not_true_eq_false] at h; done) | (simp only [beq_self_eq_true, Bool.true_eq_false, reduceCtorEq] at h; done)))) | (with_reducible intro hz; (try exact absurd hz (Nat.succ_ne_zero _)))))
    all_goals (refine ⟨?_⟩; simp (disch := omega) only [w64] at *; (try simp only [*, zv_s, Option.bind_some, Option.bind_none]); (try rfl))
/-- The misfit of a line. -/
def mfO (u : FrT) (E : List FrT) (vp : Int) (vb : Bool) (x : FrT) (i : Int) : Option FrT := (lnO' u vp vb x i).bind fun a => (nrO u E a).map (·.2)
theorem lnO_sm {u : FrT} {vp : Int} {vb : Bool} {x : FrT} {i : Int} {a : FrT} (h : lnO' u vp vb x i = some a) : smF a.1 a.2 := by
  have h2 := (ln_e u vp vb x i).2 a h
  rw [← h2]; exact lnV_sm _ _ _ _ _
theorem nrO_sm {u : FrT} {E : List FrT} {x : FrT} {v : Int × FrT} (h : nrO u E x = some v) : smF v.2.1 v.2.2 := by
  have h2 := (nrO_b h).2
  rw [← h2]; exact (amin_b (nrD_sm u E x) _).2
theorem mf_e {u : FrT} {E : List FrT} {vp : Int} {vb : Bool} {x : FrT} {i : Nat} : (mfO u E vp vb x i = none → ftX u E vp vb x i = true) ∧ ∀ v, mfO u E vp vb x i = some v → (ftX u E vp vb x i = false ∧ ftD u E vp vb x i = v) ∧ smF v.1 v.2 := by
  have hl := ln_e u vp vb x i
  unfold mfO ftX ftD
  cases h1 : lnO' u vp vb x i with
  | none => rw [h1] at hl; rw [hl.1]; simp
  | some a =>
    rw [h1] at hl
    rw [hl.1, hl.2 a rfl]
    simp only [Option.bind_some, Option.isSome_some, Bool.not_true, Bool.false_or]
    cases h2 : nrO u E a with
    | none =>
      simp only [Option.map_none, true_implies, reduceCtorEq, false_implies, implies_true, and_true]
      unfold nrO at h2
      split at h2
      · assumption
      · simp at h2
    | some v =>
      have hb := nrO_b h2
      have hsm := nrO_sm h2
      simp only [Option.map_some, reduceCtorEq, false_implies, true_and]
      intro w hw
      obtain rfl := Option.some.inj hw
      exact ⟨⟨hb.1, by rw [hb.2]⟩, hsm⟩
def s_l02MisV : Spec := fun args S => match args, S with
  | [.ptr 0 0 0, .ptr 1 0 3, .agg [.int .i64 xp, .int .i64 xq], .int .i64 i], [.box [.int .i64 up, .int .i64 uq, .sl 2 s n x] true false, .box [.int .i64 ap, .int .i64 aq, .sl 3 s' n' x', .int .i64 vp, .bool vb, .int .i64 gp, .int .i64 gq, .sl 4 t m y] true false, .arr (.prod (.int .i64) (.int .i64)) l 2 wr, .arr (.prod (.int .i64) (.int .i64)) l' 2 wr', .arr (.prod .str (.prod (.prod (.int .i64) (.int .i64)) (.prod (.int .i64) (.int .i64)))) T 5 wT] => ⟨s + n ≤ l.length ∧ scB up uq (seg l s n) = true ∧ (2 ≤ vp ∧ vp ≤ 40) ∧ (0 ≤ i ∧ i ≤ 40) ∧ smF xp xq, .tup [.agg [.int .i64 (zv (mfO (up, uq) (seg l s n) vp vb (xp, xq) i)).1, .int .i64 (zv (mfO (up, uq) (seg l s n) vp vb (xp, xq) i)).2], .int .i64 (oC (mfO (up, uq) (seg l s n) vp vb (xp, xq) i))], [.box [.int .i64 up, .int .i64 uq, .sl 2 s n x] true false, .box [.int .i64 ap, .int .i64 aq, .sl 3 s' n' x', .int .i64 vp, .bool vb, .int .i64 gp, .int .i64 gq, .sl 4 t m y] true false, .arr (.prod (.int .i64) (.int .i64)) l 2 wr, .arr (.prod (.int .i64) (.int .i64)) l' 2 wr', .arr (.prod .str (.prod (.prod (.int .i64) (.int .i64)) (.prod (.int .i64) (.int .i64)))) T 5 wT]⟩
  | _, _ => noSpec
theorem okO_ln (u : FrT) (vp : Int) (vb : Bool) (x : FrT) (i : Int) : OkO (lnO' u vp vb x i) := okO_bind _ _ fun _ => okO_bind _ _ fun _ => okO_ad _ _
attribute [local irreducible] sbO muO adO dvO mkV lnO' nrO in
theorem ok_l02MisV : SpecOk Try.prog 108 s_l02MisV := by
  intro args S h; unfold s_l02MisV at h ⊢; (split at h <;> first | exact False.elim h | skip)
  dsimp only at h ⊢
  rename_i xp xq i up uq s n x ap aq s' n' x' vp vb gp gq t m y l wr l' wr' T wT
  obtain ⟨h1, hsc, hv, hi, hx⟩ := h
  have hu := smF_ok (sc_sz hsc).1
  refine funW tabOk (E := [(107, s_l02LineV), (118, s_l02NearV)]) ⟨ok_l02LineV, ok_l02NearV, trivial⟩ [] (k := 5) (fn := Try.f108) rfl rfl rfl rfl rfl rfl ?_
  (repeat' ((try (conv => whnf)); first | (with_reducible first | refine And.intro ?_ ?_ | refine WX.of ?_ | exact VC.mk rfl | exact True.intro | exact VC.mk ⟨rfl, fun e => e⟩ | exact VC.mk ⟨fun e => e, rfl⟩ | exact VC.mk (Nat.le_refl _) | exact drawOk_i (by decide +kernel) (by decide +kernel) (by decide +kernel)) | ((with_reducible refine VC.mk ?_); first | (dsimp only; done) | omega | (congr 1; (try simp (disch := omega) only [w64]); omega) | exact ⟨rfl, rfl⟩ | (refine ⟨?_, ?_, ?_⟩; assumption; assumption; omega) | (refine ⟨Nat.le_trans (Nat.mul_le_mul_left _ (m := 1000) ?_) ?_, ?_⟩; decide; omega; omega)) | ((with_reducible refine VC.mk ?_); exact ⟨hu, hv, hi, hx⟩) | ((with_reducible refine VC.mk ?_); exact ⟨h1, hsc, (by assumption)⟩) | ((with_reducible refine splitO (by first  |  exact okO_sb _ _  |  exact okO_mu _ _  |  exact okO_ad _ _  |  exact okO_dv _ _  |  exact okO_bind _ _ fun _ => okO_ad _ _  |  exact okO_ln _ _ _ _ _) (fun h => ?_) (fun a b h hs => ?_)) <;> (try rw [h]) <;> (try simp only [zv_s] at h) <;> (try dsimp only at h)) | with_reducible refine splitT ?_ | with_reducible refine splitF ?_ | ((with_reducible refine splitB.mk (fun h => ?_) (fun h => ?_)) <;> (try simp only [decide_eq_true_eq, decide_eq_false_iff_not, ne_eq, Decidable.not_not, Int.not_lt, Int.not_le, Bool.not_eq_true', Bool.not_eq_false'] at h) <;> (try simp (disch := omega) only [w64] at h) <;> (try (exfalso; first | omega | exact h True.intro | (simp only [and_self, not_true_eq_false] at h; done) | (simp only [beq_self_eq_true, Bool.true_eq_false, reduceCtorEq] at h; done)))) | (with_reducible intro hz; (try exact absurd hz (Nat.succ_ne_zero _)))))
  all_goals refine ⟨?_⟩
  · unfold mfO; rw [h]; rfl
  · unfold mfO
    rw [h]
    simp only [Option.bind_some, zv_s]
    cases h2 : nrO (up, uq) (seg l s n) (a, b) <;> rfl
theorem anyFt {u : FrT} {E : List FrT} {vp : Int} {vb : Bool} {x : FrT} {i : Nat} (h : mfO u E vp vb x i = none) (hi : i < vp.toNat) : anyN (ftX u E vp vb x) vp.toNat = true := anyN_at (mf_e.1 h) hi
theorem mfO_sm {u : FrT} {E : List FrT} {vp : Int} {vb : Bool} {x : FrT} {i : Nat} {a b : Int} (h : mfO u E vp vb x i = some (a, b)) : ftX u E vp vb x i = false ∧ ftD u E vp vb x i = (a, b) := (mf_e.2 _ h).1
theorem splitS {o : Option FrT} {A B : Prop} (hf : ∀ v, o = some v → smF v.1 v.2) (h1 : o = none → A) (h2 : ∀ a b, o = some (a, b) → smF a b → B) : splitB (decide (oC o ≠ 0)) A B := by
  cases o with
  | none => exact ⟨fun _ => h1 rfl, fun e => by simp [oC] at e⟩
  | some v => exact ⟨fun e => by simp [oC] at e, fun _ => h2 v.1 v.2 rfl (hf v rfl)⟩
def s_l02FitV : Spec := fun args S => match args, S with
  | [.ptr 0 0 0, .ptr 1 0 3, .agg [.int .i64 xp, .int .i64 xq]], [.box [.int .i64 up, .int .i64 uq, .sl 2 s n x] true false, .box [.int .i64 ap, .int .i64 aq, .sl 3 s' n' x', .int .i64 vp, .bool vb, .int .i64 gp, .int .i64 gq, .sl 4 t m y] true false, .arr (.prod (.int .i64) (.int .i64)) l 2 wr, .arr (.prod (.int .i64) (.int .i64)) l' 2 wr', .arr (.prod .str (.prod (.prod (.int .i64) (.int .i64)) (.prod (.int .i64) (.int .i64)))) T 5 wT] => ⟨s + n ≤ l.length ∧ scB up uq (seg l s n) = true ∧ (2 ≤ vp ∧ vp ≤ 40) ∧ smF xp xq, .tup [.int .i64 (eV 0 (fitE (up, uq) (seg l s n) vp vb (xp, xq))), .int .i64 (eC (fitE (up, uq) (seg l s n) vp vb (xp, xq)))], [.box [.int .i64 up, .int .i64 uq, .sl 2 s n x] true false, .box [.int .i64 ap, .int .i64 aq, .sl 3 s' n' x', .int .i64 vp, .bool vb, .int .i64 gp, .int .i64 gq, .sl 4 t m y] true false, .arr (.prod (.int .i64) (.int .i64)) l 2 wr, .arr (.prod (.int .i64) (.int .i64)) l' 2 wr', .arr (.prod .str (.prod (.prod (.int .i64) (.int .i64)) (.prod (.int .i64) (.int .i64)))) T 5 wT]⟩
  | _, _ => noSpec
theorem fit_2' {u : FrT} {E : List FrT} {vp : Int} {vb : Bool} {x : FrT} (h : ¬ cmpF x.1 x.2 (mkV u 0 (elT E 0)).1 (mkV u 0 (elT E 0)).2 < 0) (h2 : lnO' u vp vb x (vp - 1) = none) : fitE u E vp vb x = .error 3 := by
  unfold fitE; rw [if_neg h, h2]; rfl
theorem fit_3' {u : FrT} {E : List FrT} {vp : Int} {vb : Bool} {x e : FrT} (h : ¬ cmpF x.1 x.2 (mkV u 0 (elT E 0)).1 (mkV u 0 (elT E 0)).2 < 0) (h2 : lnO' u vp vb x (vp - 1) = some e) : fitE u E vp vb x = if cmpF e.1 e.2 (mkV u ((E.length : Int) - 1) (elT E (E.length - 1))).1 (mkV u ((E.length : Int) - 1) (elT E (E.length - 1))).2 > 0 then .error 2 else
  if anyN (ftX u E vp vb x) vp.toNat = true then .error 3 else .ok (amin (ftD u E vp vb x) vp.toNat).1 := by
  unfold fitE; rw [if_neg h, h2]; rfl
attribute [local irreducible] sbO muO adO dvO mkV lnO' nrO mfO fitE in
set_option maxHeartbeats 3200000 in
theorem ok_l02FitV : SpecOk Try.prog 84 s_l02FitV := by
  intro args S h; unfold s_l02FitV at h ⊢; (split at h <;> first | exact False.elim h | skip)
  dsimp only at h ⊢
  rename_i xp xq up uq s n x ap aq s' n' x' vp vb gp gq t m y l wr l' wr' T wT
  obtain ⟨h1, hsc, hv, hx⟩ := h
  have hL := seg_len h1
  have hsz := sc_sz hsc
  rw [hL] at hsz
  have hw2 : IntKind.i64.wrap ((n : Int) - 1) = (n : Int) - 1 := w64 (by omega)
  have hw1 : IntKind.i64.wrap (vp - 1) = vp - 1 := w64 (by omega)
  have ht2 : ((n : Int) - 1).toNat = n - 1 := by omega
  have f1 := fit_1 (u := (up, uq)) (E := seg l s n) (vp := vp) (vb := vb) (x := (xp, xq))
  have f2 := fit_2' (u := (up, uq)) (E := seg l s n) (vp := vp) (vb := vb) (x := (xp, xq))
  have f3 := fun e => fit_3' (u := (up, uq)) (E := seg l s n) (vp := vp) (vb := vb) (x := (xp, xq)) (e := e)
  rw [hL] at f3
  refine funW tabOk (E := [(104, s_l02MarkV), (105, s_cmp), (107, s_l02LineV), (108, s_l02MisV)]) ⟨ok_l02MarkV, ok_l01Cmp, ok_l02LineV, ok_l02MisV, trivial⟩ [(5, [(12, 0)])] (k := 5) (fn := Try.f84) rfl rfl rfl rfl rfl rfl ?_
  (repeat' ((try (conv => whnf)); first | (with_reducible first | refine And.intro ?_ ?_ | refine WX.of ?_ | exact VC.mk rfl | exact True.intro | exact VC.mk ⟨rfl, fun e => e⟩ | exact VC.mk ⟨fun e => e, rfl⟩ | exact VC.mk (Nat.le_refl _) | exact drawOk_i (by decide +kernel) (by decide +kernel) (by decide +kernel)) | ((with_reducible refine VC.mk ?_); first | (dsimp only; done) | omega | (congr 1; (try simp (disch := omega) only [w64]); omega) | exact ⟨rfl, rfl⟩ | (refine ⟨?_, ?_, ?_⟩; assumption; assumption; omega) | (refine ⟨Nat.le_trans (Nat.mul_le_mul_left _ (m := 1000) ?_) ?_, ?_⟩; decide; omega; omega)) | ((with_reducible refine VC.mk ?_); exact ⟨h1, ⟨by decide, by omega⟩, hsc⟩) | ((with_reducible refine VC.mk ?_); exact ⟨h1, ⟨by rw [hw2]; omega, by rw [hw2]; omega⟩, hsc⟩) | ((with_reducible refine VC.mk ?_); exact ⟨hx, mkV_sm _ _ _⟩) | ((with_reducible refine VC.mk ?_); exact ⟨smF_ok (sc_sz hsc).1, hv, ⟨by rw [hw1]; omega, by rw [hw1]; omega⟩, hx⟩) | ((with_reducible refine VC.mk ?_); exact ⟨(by assumption), mkV_sm _ _ _⟩) | ((with_reducible refine splitO (by first  |  exact okO_sb _ _  |  exact okO_mu _ _  |  exact okO_ad _ _  |  exact okO_dv _ _  |  exact okO_bind _ _ fun _ => okO_ad _ _  |  exact okO_ln _ _ _ _ _) (fun h => ?_) (fun a b h hs => ?_)) <;> (try rw [h]) <;> (try simp only [zv_s] at h) <;> (try dsimp only at h)) | with_reducible refine splitT ?_ | with_reducible refine splitF ?_ | ((with_reducible refine splitB.mk (fun h => ?_) (fun h => ?_)) <;> (try simp only [decide_eq_true_eq, decide_eq_false_iff_not, ne_eq, Decidable.not_not, Int.not_lt, Int.not_le, Bool.not_eq_true', Bool.not_eq_false'] at h) <;> (try simp (disch := omega) only [w64] at h) <;> (try (exfalso; first | omega | exact h True.intro | (simp only [and_self, not_true_eq_false] at h; done) | (simp only [beq_self_eq_true, Bool.true_eq_false, reduceCtorEq] at h; done)))) | (with_reducible intro hz; (try exact absurd hz (Nat.succ_ne_zero _)))))
  · exact ⟨by rw [f1 h]; rfl⟩
  · rename_i hc
    rw [hw1] at h
    exact ⟨by rw [f2 (Int.not_lt.2 hc) h]; rfl⟩
  · rename_i hc hl
    rw [hw1] at hl
    rw [ht2] at h
    exact ⟨by rw [(f3 _ (Int.not_lt.2 hc) hl).trans (if_pos h)]; rfl⟩
  · rename_i hc hl
    rw [hw1] at hl
    rw [ht2] at h
    have f4 := (f3 _ (Int.not_lt.2 hc) hl).trans (if_neg (Int.not_lt.2 h))
    rw [f4]
    refine loopW tabOk (E := [(104, s_l02MarkV), (105, s_cmp), (107, s_l02LineV), (108, s_l02MisV)]) ⟨ok_l02MarkV, ok_l01Cmp, ok_l02LineV, ok_l02MisV, trivial⟩ [(5, [(12, 0)])] (σ := Nat) (fun i => [(0, .ptr 0 0 0), (1, .ptr 1 0 3), (5, .ptr 5 0 0), (14, .int .i64 (amin0 (ftD (up, uq) (seg l s n) vp vb (xp, xq)) i).1), (15, .ptr 6 0 0), (16, .int .i64 i)]) (fun i => [.box [.int .i64 up, .int .i64 uq, .sl 2 s n x] true false, .box [.int .i64 ap, .int .i64 aq, .sl 3 s' n' x', .int .i64 vp, .bool vb, .int .i64 gp, .int .i64 gq, .sl 4 t m y] true false, .arr (.prod (.int .i64) (.int .i64)) l 2 wr, .arr (.prod (.int .i64) (.int .i64)) l' 2 wr', .arr (.prod .str (.prod (.prod (.int .i64) (.int .i64)) (.prod (.int .i64) (.int .i64)))) T 5 wT, .arr (.prod (.int .i64) (.int .i64)) [(xp, xq)] 0 true, .arr (.prod (.int .i64) (.int .i64)) [(amin0 (ftD (up, uq) (seg l s n) vp vb (xp, xq)) i).2] 0 true]) (fun i => vp.toNat - i) (fun i => i ≤ vp.toNat ∧ ∀ j, j < i → ftX (up, uq) (seg l s n) vp vb (xp, xq) j = false) 0 ⟨Nat.zero_le _, fun j hj => by omega⟩ ?_ ?_
    · (repeat' ((try (conv => whnf)); first | (with_reducible first | refine And.intro ?_ ?_ | refine WX.of ?_ | exact VC.mk rfl | exact True.intro | exact VC.mk ⟨rfl, fun e => e⟩ | exact VC.mk ⟨fun e => e, rfl⟩ | exact VC.mk (Nat.le_refl _) | exact drawOk_i (by decide +kernel) (by decide +kernel) (by decide +kernel)) | ((with_reducible refine VC.mk ?_); first | (dsimp only; done) | omega | (congr 1; (try simp (disch := omega) only [w64]); omega) | exact ⟨rfl, rfl⟩ | (refine ⟨?_, ?_, ?_⟩; assumption; assumption; omega) | (refine ⟨Nat.le_trans (Nat.mul_le_mul_left _ (m := 1000) ?_) ?_, ?_⟩; decide; omega; omega)) | with_reducible refine splitT ?_ | with_reducible refine splitF ?_ | ((with_reducible refine splitB.mk (fun h => ?_) (fun h => ?_)) <;> (try simp only [decide_eq_true_eq, decide_eq_false_iff_not, ne_eq, Decidable.not_not, Int.not_lt, Int.not_le, Bool.not_eq_true', Bool.not_eq_false'] at h) <;> (try simp (disch := omega) only [w64] at h) <;> (try (exfalso; first | omega | exact h True.intro | (simp only [and_self, not_true_eq_false] at h; done) | (simp only [beq_self_eq_true, Bool.true_eq_false, reduceCtorEq] at h; done)))) | (with_reducible intro hz; (try exact absurd hz (Nat.succ_ne_zero _)))))
    · intro i ⟨hi, hp⟩
      have hb := amin_b (ftD_sm (up, uq) (seg l s n) vp vb (xp, xq)) i
      have hm0 : i ≠ 0 → smF (amin0 (ftD (up, uq) (seg l s n) vp vb (xp, xq)) i).2.1 (amin0 (ftD (up, uq) (seg l s n) vp vb (xp, xq)) i).2.2 := fun h => by rw [amin0_n (by omega)]; exact hb.2
      by_cases hlt : i < vp.toNat
      · (repeat' ((try (conv => whnf)); first | (with_reducible first | refine And.intro ?_ ?_ | refine WX.of ?_ | exact VC.mk rfl | exact True.intro | exact VC.mk ⟨rfl, fun e => e⟩ | exact VC.mk ⟨fun e => e, rfl⟩ | exact VC.mk (Nat.le_refl _) | exact drawOk_i (by decide +kernel) (by decide +kernel) (by decide +kernel)) | ((with_reducible refine VC.mk ?_); first | (dsimp only; done) | omega | (congr 1; (try simp (disch := omega) only [w64]); omega) | exact ⟨rfl, rfl⟩ | (refine ⟨?_, ?_, ?_⟩; assumption; assumption; omega) | (refine ⟨Nat.le_trans (Nat.mul_le_mul_left _ (m := 1000) ?_) ?_, ?_⟩; decide; omega; omega)) | ((with_reducible refine VC.mk ?_); exact ⟨h1, hsc, hv, ⟨by omega, by omega⟩, hx⟩) | ((with_reducible refine VC.mk ?_); exact ⟨(by assumption), hm0 (by omega)⟩) | ((with_reducible refine splitS (fun v h => (mf_e.2 v h).2) (fun h => ?_) (fun a b h hs => ?_)) <;> (try rw [h])) | with_reducible refine splitT ?_ | with_reducible refine splitF ?_ | ((with_reducible refine splitB.mk (fun h => ?_) (fun h => ?_)) <;> (try simp only [decide_eq_true_eq, decide_eq_false_iff_not, ne_eq, Decidable.not_not, Int.not_lt, Int.not_le, Bool.not_eq_true', Bool.not_eq_false'] at h) <;> (try simp (disch := omega) only [w64] at h) <;> (try (exfalso; first | omega | exact h True.intro | (simp only [and_self, not_true_eq_false] at h; done) | (simp only [beq_self_eq_true, Bool.true_eq_false, reduceCtorEq] at h; done)))) | (with_reducible intro hz; (try exact absurd hz (Nat.succ_ne_zero _)))))
        · rw [if_pos (anyFt h hlt)]
          exact ⟨rfl⟩
        · rename_i hm
          obtain ⟨h3, h4⟩ := mfO_sm hm
          refine ⟨i + 1, by omega, ⟨hlt, upN h3 hp⟩, ?_⟩
          rw [amin0_s, amin_y (.inl (by omega)), h4]
          (repeat' ((try (conv => whnf)); first | (with_reducible first | refine And.intro ?_ ?_ | refine WX.of ?_ | exact VC.mk rfl | exact True.intro | exact VC.mk ⟨rfl, fun e => e⟩ | exact VC.mk ⟨fun e => e, rfl⟩ | exact VC.mk (Nat.le_refl _) | exact drawOk_i (by decide +kernel) (by decide +kernel) (by decide +kernel)) | ((with_reducible refine VC.mk ?_); first | (dsimp only; done) | omega | (congr 1; (try simp (disch := omega) only [w64]); omega) | exact ⟨rfl, rfl⟩ | (refine ⟨?_, ?_, ?_⟩; assumption; assumption; omega) | (refine ⟨Nat.le_trans (Nat.mul_le_mul_left _ (m := 1000) ?_) ?_, ?_⟩; decide; omega; omega)) | with_reducible refine splitT ?_ | with_reducible refine splitF ?_ | ((with_reducible refine splitB.mk (fun h => ?_) (fun h => ?_)) <;> (try simp only [decide_eq_true_eq, decide_eq_false_iff_not, ne_eq, Decidable.not_not, Int.not_lt, Int.not_le, Bool.not_eq_true', Bool.not_eq_false'] at h) <;> (try simp (disch := omega) only [w64] at h) <;> (try (exfalso; first | omega | exact h True.intro | (simp only [and_self, not_true_eq_false] at h; done) | (simp only [beq_self_eq_true, Bool.true_eq_false, reduceCtorEq] at h; done)))) | (with_reducible intro hz; (try exact absurd hz (Nat.succ_ne_zero _)))))
        · rename_i hm h0
          obtain ⟨h3, h4⟩ := mfO_sm hm
          refine ⟨i + 1, by omega, ⟨hlt, upN h3 hp⟩, ?_⟩
          rw [amin0_n (by omega)] at h
          rw [amin0_s, amin_y (.inr (by rw [h4]; exact h)), h4]
          (repeat' ((try (conv => whnf)); first | (with_reducible first | refine And.intro ?_ ?_ | refine WX.of ?_ | exact VC.mk rfl | exact True.intro | exact VC.mk ⟨rfl, fun e => e⟩ | exact VC.mk ⟨fun e => e, rfl⟩ | exact VC.mk (Nat.le_refl _) | exact drawOk_i (by decide +kernel) (by decide +kernel) (by decide +kernel)) | ((with_reducible refine VC.mk ?_); first | (dsimp only; done) | omega | (congr 1; (try simp (disch := omega) only [w64]); omega) | exact ⟨rfl, rfl⟩ | (refine ⟨?_, ?_, ?_⟩; assumption; assumption; omega) | (refine ⟨Nat.le_trans (Nat.mul_le_mul_left _ (m := 1000) ?_) ?_, ?_⟩; decide; omega; omega)) | with_reducible refine splitT ?_ | with_reducible refine splitF ?_ | ((with_reducible refine splitB.mk (fun h => ?_) (fun h => ?_)) <;> (try simp only [decide_eq_true_eq, decide_eq_false_iff_not, ne_eq, Decidable.not_not, Int.not_lt, Int.not_le, Bool.not_eq_true', Bool.not_eq_false'] at h) <;> (try simp (disch := omega) only [w64] at h) <;> (try (exfalso; first | omega | exact h True.intro | (simp only [and_self, not_true_eq_false] at h; done) | (simp only [beq_self_eq_true, Bool.true_eq_false, reduceCtorEq] at h; done)))) | (with_reducible intro hz; (try exact absurd hz (Nat.succ_ne_zero _)))))
        · rename_i hm h0
          obtain ⟨h3, h4⟩ := mfO_sm hm
          refine ⟨i + 1, by omega, ⟨hlt, upN h3 hp⟩, ?_⟩
          rw [amin0_n (by omega)] at h
          rw [amin0_s, amin_n (fun e => e.elim (fun e => absurd e (by omega)) (by rw [h4]; exact Int.not_lt.2 h)), ← amin0_n (by omega)]
          (repeat' ((try (conv => whnf)); first | (with_reducible first | refine And.intro ?_ ?_ | refine WX.of ?_ | exact VC.mk rfl | exact True.intro | exact VC.mk ⟨rfl, fun e => e⟩ | exact VC.mk ⟨fun e => e, rfl⟩ | exact VC.mk (Nat.le_refl _) | exact drawOk_i (by decide +kernel) (by decide +kernel) (by decide +kernel)) | ((with_reducible refine VC.mk ?_); first | (dsimp only; done) | omega | (congr 1; (try simp (disch := omega) only [w64]); omega) | exact ⟨rfl, rfl⟩ | (refine ⟨?_, ?_, ?_⟩; assumption; assumption; omega) | (refine ⟨Nat.le_trans (Nat.mul_le_mul_left _ (m := 1000) ?_) ?_, ?_⟩; decide; omega; omega)) | with_reducible refine splitT ?_ | with_reducible refine splitF ?_ | ((with_reducible refine splitB.mk (fun h => ?_) (fun h => ?_)) <;> (try simp only [decide_eq_true_eq, decide_eq_false_iff_not, ne_eq, Decidable.not_not, Int.not_lt, Int.not_le, Bool.not_eq_true', Bool.not_eq_false'] at h) <;> (try simp (disch := omega) only [w64] at h) <;> (try (exfalso; first | omega | exact h True.intro | (simp only [and_self, not_true_eq_false] at h; done) | (simp only [beq_self_eq_true, Bool.true_eq_false, reduceCtorEq] at h; done)))) | (with_reducible intro hz; (try exact absurd hz (Nat.succ_ne_zero _)))))
      · obtain rfl : i = vp.toNat := by omega
        rw [if_neg (by rw [anyN_no fun j hj => hp j hj]; decide), amin0_n (by omega)]
        (repeat' ((try (conv => whnf)); first | (with_reducible first | refine And.intro ?_ ?_ | refine WX.of ?_ | exact VC.mk rfl | exact True.intro | exact VC.mk ⟨rfl, fun e => e⟩ | exact VC.mk ⟨fun e => e, rfl⟩ | exact VC.mk (Nat.le_refl _) | exact drawOk_i (by decide +kernel) (by decide +kernel) (by decide +kernel)) | ((with_reducible refine VC.mk ?_); first | (dsimp only; done) | omega | (congr 1; (try simp (disch := omega) only [w64]); omega) | exact ⟨rfl, rfl⟩ | (refine ⟨?_, ?_, ?_⟩; assumption; assumption; omega) | (refine ⟨Nat.le_trans (Nat.mul_le_mul_left _ (m := 1000) ?_) ?_, ?_⟩; decide; omega; omega)) | with_reducible refine splitT ?_ | with_reducible refine splitF ?_ | ((with_reducible refine splitB.mk (fun h => ?_) (fun h => ?_)) <;> (try simp only [decide_eq_true_eq, decide_eq_false_iff_not, ne_eq, Decidable.not_not, Int.not_lt, Int.not_le, Bool.not_eq_true', Bool.not_eq_false'] at h) <;> (try simp (disch := omega) only [w64] at h) <;> (try (exfalso; first | omega | exact h True.intro | (simp only [and_self, not_true_eq_false] at h; done) | (simp only [beq_self_eq_true, Bool.true_eq_false, reduceCtorEq] at h; done)))) | (with_reducible intro hz; (try exact absurd hz (Nat.succ_ne_zero _)))))
end Go.Proofs.Ytbmejhabgoimeaa.Eng
