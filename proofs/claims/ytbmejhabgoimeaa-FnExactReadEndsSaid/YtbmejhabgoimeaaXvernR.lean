/- vernR: lemmas for the proof, no conditions of their own. -/
import Derived.Test.YtbmejhabgoimeaaXvernI
set_option linter.unusedVariables false
set_option linter.unusedSimpArgs false
namespace Go.Proofs.Ytbmejhabgoimeaa.Eng
open Go Go.RowKit
set_option maxRecDepth 100000
def s_nrst : Spec := fun args S => match args, S with
  | [.int .i64 p, .int .i64 q], [] => ⟨(0 < q ∧ q ≤ 1000000000000000000) ∧ -1000000000000000000 ≤ p ∧ p ≤ 1000000000000000000, .tup [.int .i64 ((2 * p + q) / (2 * q)), .bool (decide (-1000000000 ≤ (2 * p + q) / (2 * q) ∧ (2 * p + q) / (2 * q) ≤ 1000000000))], []⟩
  | _, _ => noSpec
theorem ok_nearest : SpecOk Try.prog 59 s_nrst := by
  intro args S h; unfold s_nrst at h ⊢; (split at h <;> first | exact False.elim h | skip)
  dsimp only at h ⊢
  rename_i p q
  refine funW tabOk (E := [(96, s_floor), (71, s_within)]) ⟨ok_floorDiv, ok_within, trivial⟩ [] (k := 0) (fn := Try.f59) rfl rfl rfl rfl rfl rfl ?_
  (repeat' ((try (conv => whnf)); first | (with_reducible first | refine And.intro ?_ ?_ | refine WX.of ?_ | exact VC.mk rfl | exact True.intro | exact VC.mk ⟨rfl, fun e => e⟩ | exact VC.mk ⟨fun e => e, rfl⟩ | exact VC.mk (Nat.le_refl _) | exact drawOk_i (by decide +kernel) (by decide +kernel) (by decide +kernel)) | ((with_reducible refine VC.mk ?_); first | (dsimp only; done) | omega | (congr 1; (try simp (disch := omega) only [w64]); omega) | exact ⟨rfl, rfl⟩ | (refine ⟨?_, ?_, ?_⟩; assumption; assumption; omega) | (refine ⟨Nat.le_trans (Nat.mul_le_mul_left _ (m := 1000) ?_) ?_, ?_⟩; decide; omega; omega)) | ((with_reducible refine VC.mk ?_); simp (disch := omega) only [w64]; omega) | with_reducible refine splitT ?_ | with_reducible refine splitF ?_ | ((with_reducible refine splitB.mk (fun h => ?_) (fun h => ?_)) <;> (try simp only [decide_eq_true_eq, decide_eq_false_iff_not, ne_eq, Decidable.not_not, Int.not_lt, Int.not_le, Bool.not_eq_true', Bool.not_eq_false'] at h) <;> (try simp (disch := omega) only [w64] at h) <;> (try (exfalso; first | omega | exact h True.intro | (simp only [and_self, not_true_eq_false] at h; done) | (simp only [beq_self_eq_true, Bool.true_eq_false, reduceCtorEq] at h; done)))) | (with_reducible intro hz; (try exact absurd hz (Nat.succ_ne_zero _)))))
  all_goals (refine ⟨?_⟩; simp (disch := omega) only [w64])
theorem prod_b {a b : Int} (ha : (-1000000000 : Int) ≤ a ∧ a ≤ 1000000000) (hb : 1 ≤ b ∧ b ≤ 1000000000) : -1000000000000000000 ≤ a * b ∧ a * b ≤ 1000000000000000000 := by
  have h1 : a * b ≤ 1000000000 * b := Int.mul_le_mul_of_nonneg_right ha.2 (by omega)
  have h2 : (-1000000000) * b ≤ a * b := Int.mul_le_mul_of_nonneg_right ha.1 (by omega)
  omega
def s_readI : Spec := fun args S => match args, S with
  | [.agg [.int .i64 up, .int .i64 uq, .sl 0 s n x], .agg [.int .i64 vp, .bool vb], .agg [.int .i64 xp, .int .i64 xq]], [.arr (.prod (.int .i64) (.int .i64)) l 2 wr] => ⟨s + n ≤ l.length ∧ scB up uq (seg l s n) = true ∧ (2 ≤ vp ∧ vp ≤ 40) ∧ fOk xp xq = true, .tup [.agg [.int .i64 (eV (0, 0) (readE (up, uq) (seg l s n) vp vb (xp, xq))).1, .int .i64 (eV (0, 0) (readE (up, uq) (seg l s n) vp vb (xp, xq))).2], .int .i64 (eC (readE (up, uq) (seg l s n) vp vb (xp, xq)))], [.arr (.prod (.int .i64) (.int .i64)) l 2 wr]⟩
  | _, _ => noSpec
theorem fit_b {u : FrT} {E : List FrT} {vp : Int} {vb : Bool} {x : FrT} (hv : 2 ≤ vp) {f : Int} (h : fitE u E vp vb x = .ok f) : 0 ≤ f ∧ f ≤ vp - 1 := by
  unfold fitE at h
  split at h
  · cases h
  · cases h3 : lnO' u vp vb x (vp - 1) with
    | none => rw [h3] at h; cases h
    | some v =>
      rw [h3] at h
      simp only [ofO, Except.bind, bind] at h
      split at h
      · cases h
      · split at h
        · cases h
        · cases h
          have := amin_b (ftD_sm u E vp vb x) vp.toNat
          omega
/-- Errors that are no 0. -/
def ENZ {α : Type} (e : EX α) : Prop := ∀ c, e = .error c → c ≠ 0
theorem enz_ofO {α : Type} (o : Option α) : ENZ (ofO o) := fun c h => by
  cases o with
  | none => cases h; decide
  | some v => cases h
theorem enz_bind {α β : Type} {e : EX α} {f : α → EX β} (h1 : ENZ e) (h2 : ∀ a, ENZ (f a)) : ENZ (e.bind f) := fun c h => by
  cases e with
  | error d => cases h; exact h1 _ rfl
  | ok a => exact h2 a c h
theorem enz_ok {α : Type} (a : α) : ENZ (.ok a) := fun c h => by cases h
theorem enz_er {α : Type} {d : Int} (h : d ≠ 0) : ENZ (.error d : EX α) := fun c e => by cases e; exact h
theorem enz_fit (u : FrT) (E : List FrT) (vp : Int) (vb : Bool) (x : FrT) : ENZ (fitE u E vp vb x) := by
  unfold fitE
  split
  · exact enz_er (by decide)
  · refine enz_bind (enz_ofO _) fun a => ?_
    split
    · exact enz_er (by decide)
    · split
      · exact enz_er (by decide)
      · exact enz_ok _
theorem enz_read (u : FrT) (E : List FrT) (vp : Int) (vb : Bool) (x : FrT) : ENZ (readE u E vp vb x) := enz_bind (enz_fit u E vp vb x) fun _ => enz_ofO _
theorem enz_warm (u : FrT) (E : List FrT) (y : FrT) : ENZ (warmE u E y) := by
  unfold warmE
  split
  · exact enz_er (by decide)
  · exact enz_ofO _
theorem splitE {α : Type} {e : EX α} {A B : Prop} (hz : ENZ e) (h1 : ∀ c, e = .error c → A) (h2 : ∀ f, e = .ok f → B) : splitB (decide (eC e ≠ 0)) A B := by
  cases he : e with
  | error c => exact ⟨fun _ => h1 c he, fun q => absurd (hz c he) (of_decide_eq_false q)⟩
  | ok f => exact ⟨fun q => by simp [eC] at q, fun _ => h2 f he⟩
theorem splitFit {u : FrT} {E : List FrT} {vp : Int} {vb : Bool} {x : FrT} {A B : Prop} (hv : 2 ≤ vp) (h1 : ∀ c, fitE u E vp vb x = .error c → A) (h2 : ∀ f, fitE u E vp vb x = .ok f → 0 ≤ f ∧ f ≤ vp - 1 → B) : splitB (decide (eC (fitE u E vp vb x) ≠ 0)) A B := splitE (enz_fit u E vp vb x) h1 fun f h => h2 f h (fit_b hv h)
theorem near_b {r u : FrT} (hr : smF r.1 r.2) (hu : smF u.1 u.2) (h0 : 0 < u.1) : (0 < r.2 * u.1 ∧ r.2 * u.1 ≤ 1000000000000000000) ∧ -1000000000000000000 ≤ r.1 * u.2 ∧ r.1 * u.2 ≤ 1000000000000000000 := by
  unfold smF at hr hu
  have h1 := prod_b (a := r.1) (b := u.2) (by omega) (by omega)
  have h2 := prod_b (a := r.2) (b := u.1) (by omega) (by omega)
  have h3 := mulPos hr.2.1 h0
  exact ⟨⟨by omega, h2.2⟩, h1⟩
theorem near_w {r u : FrT} (hr : smF r.1 r.2) (hu : smF u.1 u.2) (h0 : 0 < u.1) : IntKind.i64.wrap (r.1 * u.2) = r.1 * u.2 ∧ IntKind.i64.wrap (r.2 * u.1) = r.2 * u.1 := by
  have h := near_b hr hu h0
  exact ⟨w64 (by omega), w64 (by omega)⟩
theorem near_p {r u : FrT} (hr : smF r.1 r.2) (hu : smF u.1 u.2) (h0 : 0 < u.1) : (0 < IntKind.i64.wrap (r.2 * u.1) ∧ IntKind.i64.wrap (r.2 * u.1) ≤ 1000000000000000000) ∧ -1000000000000000000 ≤ IntKind.i64.wrap (r.1 * u.2) ∧ IntKind.i64.wrap (r.1 * u.2) ≤ 1000000000000000000 := by
  have h := near_w hr hu h0
  rw [h.1, h.2]
  exact near_b hr hu h0
theorem rd_close {u : FrT} {vp : Int} {vb : Bool} {x : FrT} {f g : Int} (hfl : fln vp vb f = g) (hv : 2 ≤ vp ∧ vp ≤ 40) (hg : 0 ≤ g ∧ g ≤ 40) : (¬ (-1000000000 ≤ (2 * ((tv (sbO x (tv (muO (tv (dvO (g, 1) (vp, 1))) u)))).1 * u.2) + (tv (sbO x (tv (muO (tv (dvO (g, 1) (vp, 1))) u)))).2 * u.1) / (2 * ((tv (sbO x (tv (muO (tv (dvO (g, 1) (vp, 1))) u)))).2 * u.1)) ∧ (2 * ((tv (sbO x (tv (muO (tv (dvO (g, 1) (vp, 1))) u)))).1 * u.2) + (tv (sbO x (tv (muO (tv (dvO (g, 1) (vp, 1))) u)))).2 * u.1) / (2 * ((tv (sbO x (tv (muO (tv (dvO (g, 1) (vp, 1))) u)))).2 * u.1)) ≤ 1000000000) → rvO u vp vb x f = none) ∧ (-1000000000 ≤ (2 * ((tv (sbO x (tv (muO (tv (dvO (g, 1) (vp, 1))) u)))).1 * u.2) + (tv (sbO x (tv (muO (tv (dvO (g, 1) (vp, 1))) u)))).2 * u.1) / (2 * ((tv (sbO x (tv (muO (tv (dvO (g, 1) (vp, 1))) u)))).2 * u.1)) ∧ (2 * ((tv (sbO x (tv (muO (tv (dvO (g, 1) (vp, 1))) u)))).1 * u.2) + (tv (sbO x (tv (muO (tv (dvO (g, 1) (vp, 1))) u)))).2 * u.1) / (2 * ((tv (sbO x (tv (muO (tv (dvO (g, 1) (vp, 1))) u)))).2 * u.1)) ≤ 1000000000 → (false || !(dvO (g, 1) (vp, 1)).isSome || !(muO (tv (dvO (g, 1) (vp, 1))) u).isSome || !(sbO x (tv (muO (tv (dvO (g, 1) (vp, 1))) u))).isSome || !(muO ((2 * ((tv (sbO x (tv (muO (tv (dvO (g, 1) (vp, 1))) u)))).1 * u.2) + (tv (sbO x (tv (muO (tv (dvO (g, 1) (vp, 1))) u)))).2 * u.1) / (2 * ((tv (sbO x (tv (muO (tv (dvO (g, 1) (vp, 1))) u)))).2 * u.1)), 1) u).isSome || !(adO (tv (muO (tv (dvO (g, 1) (vp, 1))) u)) (tv (muO ((2 * ((tv (sbO x (tv (muO (tv (dvO (g, 1) (vp, 1))) u)))).1 * u.2) + (tv (sbO x (tv (muO (tv (dvO (g, 1) (vp, 1))) u)))).2 * u.1) / (2 * ((tv (sbO x (tv (muO (tv (dvO (g, 1) (vp, 1))) u)))).2 * u.1)), 1) u))).isSome) = !(rvO u vp vb x f).isSome ∧ ∀ v, rvO u vp vb x f = some v → tv (adO (tv (muO (tv (dvO (g, 1) (vp, 1))) u)) (tv (muO ((2 * ((tv (sbO x (tv (muO (tv (dvO (g, 1) (vp, 1))) u)))).1 * u.2) + (tv (sbO x (tv (muO (tv (dvO (g, 1) (vp, 1))) u)))).2 * u.1) / (2 * ((tv (sbO x (tv (muO (tv (dvO (g, 1) (vp, 1))) u)))).2 * u.1)), 1) u))) = v) := by
  have hdv : (dvO (g, 1) (vp, 1)).isSome = true := by
    unfold dvO
    rw [if_neg (by dsimp only; omega)]
    have h := redOk_small (p := g * 1) (q := 1 * vp) (by omega) (by omega)
    unfold rO; rw [if_pos h]; rfl
  have ho := rv_e u vp vb x f
  unfold rvX rvV rvN rvP nrN at ho
  rw [hfl] at ho
  constructor
  · intro hn
    rw [decide_eq_false hn] at ho
    have h := ho.1
    simp only [Bool.not_false, Bool.true_or] at h
    cases hr : rvO u vp vb x f with
    | none => rfl
    | some v => rw [hr] at h; simp at h
  · intro hn
    rw [decide_eq_true hn] at ho
    simp only [Bool.not_true, Bool.false_or] at ho
    rw [hdv]
    simp only [Bool.not_true, Bool.false_or]
    exact ho
attribute [local irreducible] sbO muO adO dvO mkV lnV lnX fitE rvO in
set_option maxHeartbeats 3200000 in
theorem ok_ReadVernier : SpecOk Try.prog 28 s_readI := by
  intro args S h; unfold s_readI at h ⊢; (split at h <;> first | exact False.elim h | skip)
  dsimp only at h ⊢
  rename_i up uq s n x vp vb xp xq l wr
  have hq := h
  obtain ⟨h1, hsc, hv, hx⟩ := h
  have hxs := smF_ok hx
  have hsz := sc_sz hsc
  have hu := smF_ok hsz.1
  have hup := hsz.2.1.1
  have hwa : ∀ a b, IntKind.i64.wrap ((tv (sbO a b)).1 * uq) = (tv (sbO a b)).1 * uq := fun a b => (near_w (u := (up, uq)) (smF_sb a b) hu hup).1
  have hwb : ∀ a b, IntKind.i64.wrap ((tv (sbO a b)).2 * up) = (tv (sbO a b)).2 * up := fun a b => (near_w (u := (up, uq)) (smF_sb a b) hu hup).2
  unfold readE
  refine funW tabOk (E := [(58, s_fitI), (26, s_num), (29, s_divO), (54, s_mulO), (25, s_subO), (53, s_addO), (59, s_nrst), (60, s_one)]) ⟨ok_LineThatFits, ok_num, ok_divO, ok_mulO, ok_subO, ok_addO, ok_nearest, ok_one, trivial⟩ [(7, [(5, 0), (9, 0), (9, 1), (9, 2), (11, 0), (11, 1), (11, 2), (11, 3)]), (12, [(2, 1), (2, 2), (7, 0)])] (k := 1) (fn := Try.f28) rfl rfl rfl rfl rfl rfl ?_
  (repeat' ((try (conv => whnf)); first | (with_reducible first | refine And.intro ?_ ?_ | refine WX.of ?_ | exact VC.mk rfl | exact True.intro | exact VC.mk ⟨rfl, fun e => e⟩ | exact VC.mk ⟨fun e => e, rfl⟩ | exact VC.mk (Nat.le_refl _) | exact drawOk_i (by decide +kernel) (by decide +kernel) (by decide +kernel)) | ((with_reducible refine VC.mk ?_); first | (dsimp only; done) | omega | (congr 1; (try simp (disch := omega) only [w64]); omega) | exact ⟨rfl, rfl⟩ | (refine ⟨?_, ?_, ?_⟩; assumption; assumption; omega) | (refine ⟨Nat.le_trans (Nat.mul_le_mul_left _ (m := 1000) ?_) ?_, ?_⟩; decide; omega; omega)) | ((with_reducible refine VC.mk ?_); exact hq) | ((with_reducible refine VC.mk ?_); exact ⟨rfl, smF_1 (by dsimp only [eV]; (try rw [w64 (by omega)]); omega), smF_1 (by dsimp only; omega)⟩) | ((with_reducible refine VC.mk ?_); exact ⟨rfl, smF_dv _ _, hu⟩) | ((with_reducible refine VC.mk ?_); exact ⟨rfl, hxs, smF_mu _ _⟩) | ((with_reducible refine VC.mk ?_); exact near_p (u := (up, uq)) (smF_sb _ _) hu hup) | ((with_reducible refine VC.mk ?_); exact ⟨rfl, smF_1 h, hu⟩) | ((with_reducible refine VC.mk ?_); exact ⟨rfl, smF_mu _ _, smF_mu _ _⟩) | ((with_reducible refine splitFit hv.1 (fun c h => ?_) (fun f h hfb => ?_)) <;> (rw [h])) | with_reducible refine splitT ?_ | with_reducible refine splitF ?_ | ((with_reducible refine splitB.mk (fun h => ?_) (fun h => ?_)) <;> (try simp only [decide_eq_true_eq, decide_eq_false_iff_not, ne_eq, Decidable.not_not, Int.not_lt, Int.not_le, Bool.not_eq_true', Bool.not_eq_false'] at h) <;> (try simp (disch := omega) only [w64] at h) <;> (try (exfalso; first | omega | exact h True.intro | (simp only [and_self, not_true_eq_false] at h; done) | (simp only [beq_self_eq_true, Bool.true_eq_false, reduceCtorEq] at h; done)))) | (with_reducible intro hz; (try exact absurd hz (Nat.succ_ne_zero _)))))
  all_goals ((try dsimp only [eV] at h); (try simp only [pr_eta, hwa, hwb] at h); (try simp (disch := omega) only [w64] at h))
  all_goals (try (dsimp only [eV]; simp only [pr_eta, hwa, hwb]; (try simp (disch := omega) only [w64])))
  · rename_i hfit hvb hf0
    have hc := rd_close (u := (up, uq)) (vp := vp) (vb := vb) (x := (xp, xq)) (f := f) (g := vp - f) (by unfold fln; rw [if_pos ⟨hvb, hf0⟩]) hv (by omega)
    dsimp only at hc
    refine ⟨?_⟩
    show _ = SV.tup [SV.agg [SV.int .i64 (eV (0, 0) (ofO (rvO (up, uq) vp vb (xp, xq) f))).1, SV.int .i64 (eV (0, 0) (ofO (rvO (up, uq) vp vb (xp, xq) f))).2], SV.int .i64 (eC (ofO (rvO (up, uq) vp vb (xp, xq) f)))]
    rw [hc.1 h]
    rfl
  · rename_i hfit hvb hf0
    have hc := rd_close (u := (up, uq)) (vp := vp) (vb := vb) (x := (xp, xq)) (f := f) (g := vp - f) (by unfold fln; rw [if_pos ⟨hvb, hf0⟩]) hv (by omega)
    dsimp only at hc
    refine ⟨?_⟩
    (try dsimp only)
    rw [(hc.2 h).1]
    have h2 := (hc.2 h).2
    show SV.tup [SV.agg [SV.int .i64 _, SV.int .i64 _], SV.int .i64 _] = SV.tup [SV.agg [SV.int .i64 (eV (0, 0) (ofO (rvO (up, uq) vp vb (xp, xq) f))).1, SV.int .i64 (eV (0, 0) (ofO (rvO (up, uq) vp vb (xp, xq) f))).2], SV.int .i64 (eC (ofO (rvO (up, uq) vp vb (xp, xq) f)))]
    cases hr : rvO (up, uq) vp vb (xp, xq) f with
    | none => simp [ofO, eC, eV]
    | some v => rw [h2 v hr]; simp [ofO, eC, eV]
  · rename_i hfit hvb hf0
    have hc := rd_close (u := (up, uq)) (vp := vp) (vb := vb) (x := (xp, xq)) (f := f) (g := f) (by unfold fln; rw [if_neg (fun e => e.2 hf0)]) hv (by omega)
    dsimp only at hc
    refine ⟨?_⟩
    show _ = SV.tup [SV.agg [SV.int .i64 (eV (0, 0) (ofO (rvO (up, uq) vp vb (xp, xq) f))).1, SV.int .i64 (eV (0, 0) (ofO (rvO (up, uq) vp vb (xp, xq) f))).2], SV.int .i64 (eC (ofO (rvO (up, uq) vp vb (xp, xq) f)))]
    rw [hc.1 h]
    rfl
  · rename_i hfit hvb hf0
    have hc := rd_close (u := (up, uq)) (vp := vp) (vb := vb) (x := (xp, xq)) (f := f) (g := f) (by unfold fln; rw [if_neg (fun e => e.2 hf0)]) hv (by omega)
    dsimp only at hc
    refine ⟨?_⟩
    (try dsimp only)
    rw [(hc.2 h).1]
    have h2 := (hc.2 h).2
    show SV.tup [SV.agg [SV.int .i64 _, SV.int .i64 _], SV.int .i64 _] = SV.tup [SV.agg [SV.int .i64 (eV (0, 0) (ofO (rvO (up, uq) vp vb (xp, xq) f))).1, SV.int .i64 (eV (0, 0) (ofO (rvO (up, uq) vp vb (xp, xq) f))).2], SV.int .i64 (eC (ofO (rvO (up, uq) vp vb (xp, xq) f)))]
    cases hr : rvO (up, uq) vp vb (xp, xq) f with
    | none => simp [ofO, eC, eV]
    | some v => rw [h2 v hr]; simp [ofO, eC, eV]
  · rename_i hfit hvb
    have hc := rd_close (u := (up, uq)) (vp := vp) (vb := vb) (x := (xp, xq)) (f := f) (g := f) (by unfold fln; rw [if_neg (fun e => by rw [hvb] at e; exact absurd e.1 (by decide))]) hv (by omega)
    dsimp only at hc
    refine ⟨?_⟩
    show _ = SV.tup [SV.agg [SV.int .i64 (eV (0, 0) (ofO (rvO (up, uq) vp vb (xp, xq) f))).1, SV.int .i64 (eV (0, 0) (ofO (rvO (up, uq) vp vb (xp, xq) f))).2], SV.int .i64 (eC (ofO (rvO (up, uq) vp vb (xp, xq) f)))]
    rw [hc.1 h]
    rfl
  · rename_i hfit hvb
    have hc := rd_close (u := (up, uq)) (vp := vp) (vb := vb) (x := (xp, xq)) (f := f) (g := f) (by unfold fln; rw [if_neg (fun e => by rw [hvb] at e; exact absurd e.1 (by decide))]) hv (by omega)
    dsimp only at hc
    refine ⟨?_⟩
    (try dsimp only)
    rw [(hc.2 h).1]
    have h2 := (hc.2 h).2
    show SV.tup [SV.agg [SV.int .i64 _, SV.int .i64 _], SV.int .i64 _] = SV.tup [SV.agg [SV.int .i64 (eV (0, 0) (ofO (rvO (up, uq) vp vb (xp, xq) f))).1, SV.int .i64 (eV (0, 0) (ofO (rvO (up, uq) vp vb (xp, xq) f))).2], SV.int .i64 (eC (ofO (rvO (up, uq) vp vb (xp, xq) f)))]
    cases hr : rvO (up, uq) vp vb (xp, xq) f with
    | none => simp [ofO, eC, eV]
    | some v => rw [h2 v hr]; simp [ofO, eC, eV]
end Go.Proofs.Ytbmejhabgoimeaa.Eng
