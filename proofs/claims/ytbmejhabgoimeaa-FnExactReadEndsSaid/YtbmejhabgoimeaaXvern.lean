/- vern: lemmas for the proof, no conditions of their own. -/
import Derived.Test.YtbmejhabgoimeaaXopens
set_option linter.unusedVariables false
set_option linter.unusedSimpArgs false
namespace Go.Proofs.Ytbmejhabgoimeaa.Eng
open Go Go.RowKit
set_option maxRecDepth 100000
/-- A mark of a scale. -/
def mkO (u : FrT) (k : Int) (e : FrT) : Option FrT := (muO (k, 1) u).bind fun a => adO a e
def mkV (u : FrT) (k : Int) (e : FrT) : FrT := tv (adO (tv (muO (k, 1) u)) e)
def elT (E : List FrT) (k : Nat) : FrT := (E[k]?).getD (0, 0)
theorem elT_e {E : List FrT} {k : Nat} {a : FrT} (h : E[k]? = some a) : elT E k = a := by unfold elT; rw [h]; rfl
theorem mk_e {u : FrT} {k : Int} {e v : FrT} (h : mkO u k e = some v) : mkV u k e = v := by
  unfold mkO at h
  unfold mkV
  cases h1 : muO (k, 1) u with
  | none => rw [h1] at h; simp at h
  | some a =>
    rw [h1] at h
    simp only [Option.bind_some] at h
    show tv (adO a e) = v
    rw [h]; rfl
theorem mkO_ok {up uq : Int} {k : Nat} {e : FrT} : mkOk up uq k e = (mkO (up, uq) k e).isSome := by
  unfold mkOk mkO muO adO
  have h1 := tv_r ((k : Int) * up) (1 * uq)
  cases h : rO ((k : Int) * up) (1 * uq) with
  | none => rw [h] at h1; rw [h1.2.2]; simp
  | some a =>
    rw [h] at h1
    have h2 := tv_r (a.1 * e.2 + e.1 * a.2) (a.2 * e.2)
    rw [h1.2.2, h1.1, h1.2.1]
    simp only [tv, Option.getD_some, Option.isSome_some, Bool.true_and, Option.bind_some]
    exact h2.2.2
theorem sc_mk {up uq : Int} {E : List FrT} (h : scB up uq E = true) {k : Nat} {e : FrT} (he : E[k]? = some e) : ∃ v, mkO (up, uq) k e = some v := by
  unfold scB at h
  simp only [Bool.and_eq_true] at h
  have := allI_at h.2 he
  unfold elB at this
  simp only [Bool.and_eq_true] at this
  rw [mkO_ok] at this
  exact Option.isSome_iff_exists.1 this.2
theorem mkV_sm (u : FrT) (k : Int) (e : FrT) : smF (mkV u k e).1 (mkV u k e).2 := smF_rO _ _
/-- The least of some, with its place. -/
def amin (d : Nat → FrT) : Nat → Int × FrT
  | 0 => (-1, (0, 1))
  | i + 1 => if (amin d i).1 < 0 ∨ cmpF (d i).1 (d i).2 (amin d i).2.1 (amin d i).2.2 < 0 then ((i : Int), d i) else amin d i
theorem amin_b {d : Nat → FrT} (hd : ∀ i, smF (d i).1 (d i).2) : ∀ (i : Nat), (-1 ≤ (amin d i).1 ∧ (amin d i).1 ≤ (i : Int) - 1 ∧ (0 < i → 0 ≤ (amin d i).1)) ∧ smF (amin d i).2.1 (amin d i).2.2
  | 0 => ⟨⟨by simp [amin], by simp [amin], fun h => absurd h (by omega)⟩, smF_1 (n := 0) (by omega)⟩
  | i + 1 => by
    have h := amin_b hd i
    unfold amin
    split
    · exact ⟨⟨by dsimp only; omega, by dsimp only; push_cast; omega, fun _ => by dsimp only; omega⟩, hd i⟩
    · rename_i hn
      refine ⟨⟨h.1.1, by have := h.1.2.1; push_cast; omega, fun _ => by have := h.1.1; omega⟩, h.2⟩
theorem amin_y {d : Nat → FrT} {i : Nat} (h : (amin d i).1 < 0 ∨ cmpF (d i).1 (d i).2 (amin d i).2.1 (amin d i).2.2 < 0) : amin d (i + 1) = ((i : Int), d i) := by rw [amin, if_pos h]
theorem amin_n {d : Nat → FrT} {i : Nat} (h : ¬ ((amin d i).1 < 0 ∨ cmpF (d i).1 (d i).2 (amin d i).2.1 (amin d i).2.2 < 0)) : amin d (i + 1) = amin d i := by rw [amin, if_neg h]
def anyN (f : Nat → Bool) : Nat → Bool
  | 0 => false
  | i + 1 => anyN f i || f i
theorem anyN_at {f : Nat → Bool} {i : Nat} (hi : f i = true) : ∀ {n : Nat}, i < n → anyN f n = true
  | n + 1, hn => by
    unfold anyN
    by_cases e : i = n
    · subst e; rw [hi, Bool.or_true]
    · rw [anyN_at hi (show i < n by omega), Bool.true_or]
/-- How far a place is from a mark. -/
def absF (a : FrT) : FrT := ((a.1.natAbs : Int), a.2)
def nrD (u : FrT) (E : List FrT) (x : FrT) (k : Nat) : FrT := absF (tv (sbO x (mkV u k (elT E k))))
def nrX (u : FrT) (E : List FrT) (x : FrT) (k : Nat) : Bool := !(sbO x (mkV u k (elT E k))).isSome
theorem nrD_sm (u : FrT) (E : List FrT) (x : FrT) (k : Nat) : smF (nrD u E x k).1 (nrD u E x k).2 := smF_abs (smF_sb _ _)
def s_markI : Spec := fun args S => match args, S with
  | [.agg [.int .i64 up, .int .i64 uq, .sl 0 s n x], .int .i64 k], [.arr (.prod (.int .i64) (.int .i64)) l 2 wr] => ⟨(s + n ≤ l.length ∧ n ≤ 60) ∧ (0 ≤ k ∧ k ≤ (n : Int) - 1) ∧ smF up uq ∧ ∀ (j : Nat) (a : FrT), (seg l s n)[j]? = some a → smF a.1 a.2, .agg [.int .i64 (mkV (up, uq) k (elT (seg l s n) k.toNat)).1, .int .i64 (mkV (up, uq) k (elT (seg l s n) k.toNat)).2], [.arr (.prod (.int .i64) (.int .i64)) l 2 wr]⟩
  | _, _ => noSpec
theorem ok_markI : SpecOk Try.prog 93 s_markI := by
  intro args S h; unfold s_markI at h ⊢; (split at h <;> first | exact False.elim h | skip)
  dsimp only at h ⊢
  rename_i up uq s n x k l wr
  obtain ⟨⟨h1, h2⟩, hk, hu, hE⟩ := h
  have hL := seg_len h1
  obtain ⟨⟨p, q⟩, ha⟩ := get_some (l := seg l s n) (i := k.toNat) (by omega)
  rw [elT_e ha]
  have hs := hE _ _ ha
  have hm := smF_mu (k, 1) (up, uq)
  refine funW tabOk (E := [(26, s_num), (54, s_mulO), (53, s_addO)]) ⟨ok_num, ok_mulO, ok_addO, trivial⟩ [(2, [(5, 0), (8, 0), (8, 1), (11, 0), (11, 1)])] (k := 1) (fn := Try.f93) rfl rfl rfl rfl rfl rfl ?_
  (repeat' ((try (conv => whnf)); first | (with_reducible first | refine And.intro ?_ ?_ | refine WX.of ?_ | exact VC.mk rfl | exact True.intro | exact VC.mk ⟨rfl, fun e => e⟩ | exact VC.mk ⟨fun e => e, rfl⟩ | exact VC.mk (Nat.le_refl _) | exact drawOk_i (by decide +kernel) (by decide +kernel) (by decide +kernel)) | ((with_reducible refine VC.mk ?_); first | (dsimp only; done) | omega | (congr 1; (try simp (disch := omega) only [w64]); omega) | exact ⟨rfl, rfl⟩ | (refine ⟨?_, ?_, ?_⟩; assumption; assumption; omega) | (refine ⟨Nat.le_trans (Nat.mul_le_mul_left _ (m := 1000) ?_) ?_, ?_⟩; decide; omega; omega)) | ((with_reducible refine VC.mk ?_); exact ⟨rfl, smF_1 (by omega), hu⟩) | ((with_reducible refine VC.mk ?_); exact ⟨rfl, hm, hs⟩) | ((with_reducible refine VC.mk ?_); exact hk) | with_reducible refine atL_p (seg_get ha).1 ?_ | with_reducible refine splitT ?_ | with_reducible refine splitF ?_ | ((with_reducible refine splitB.mk (fun h => ?_) (fun h => ?_)) <;> (try simp only [decide_eq_true_eq, decide_eq_false_iff_not, ne_eq, Decidable.not_not, Int.not_lt, Int.not_le, Bool.not_eq_true', Bool.not_eq_false'] at h) <;> (try simp (disch := omega) only [w64] at h) <;> (try (exfalso; first | omega | exact h True.intro | (simp only [and_self, not_true_eq_false] at h; done) | (simp only [beq_self_eq_true, Bool.true_eq_false, reduceCtorEq] at h; done)))) | (with_reducible intro hz; (try exact absurd hz (Nat.succ_ne_zero _)))))
/-- A line of a vernier. -/
def stp (vp : Int) (vb : Bool) : Int := if vb = true then vp + 1 else vp - 1
def lnO' (u : FrT) (vp : Int) (vb : Bool) (x : FrT) (i : Int) : Option FrT := (muO (i * stp vp vb, 1) u).bind fun a => (dvO a (vp, 1)).bind fun b => adO x b
def lnV (u : FrT) (vp : Int) (vb : Bool) (x : FrT) (i : Int) : FrT := tv (adO x (tv (dvO (tv (muO (i * stp vp vb, 1) u)) (vp, 1))))
def lnX (u : FrT) (vp : Int) (vb : Bool) (x : FrT) (i : Int) : Bool := !(muO (i * stp vp vb, 1) u).isSome || !(dvO (tv (muO (i * stp vp vb, 1) u)) (vp, 1)).isSome || !(adO x (tv (dvO (tv (muO (i * stp vp vb, 1) u)) (vp, 1)))).isSome
theorem ln_e (u : FrT) (vp : Int) (vb : Bool) (x : FrT) (i : Int) : lnX u vp vb x i = !(lnO' u vp vb x i).isSome ∧ ∀ v, lnO' u vp vb x i = some v → lnV u vp vb x i = v := by
  unfold lnX lnV lnO'
  cases h1 : muO (i * stp vp vb, 1) u with
  | none => simp
  | some a =>
    simp only [Option.bind_some, tv, Option.getD_some, Option.isSome_some, Bool.not_true, Bool.false_or]
    cases h2 : dvO a (vp, 1) with
    | none => simp
    | some b =>
      simp only [Option.bind_some, Option.getD_some, Option.isSome_some, Bool.not_true, Bool.false_or, true_and]
      intro v h3; rw [h3]; rfl
theorem lnV_sm (u : FrT) (vp : Int) (vb : Bool) (x : FrT) (i : Int) : smF (lnV u vp vb x i).1 (lnV u vp vb x i).2 := smF_rO _ _
/-- What may fail with a code. -/
abbrev EX (α : Type) : Type := Except Int α
def ofO {α : Type} (o : Option α) : EX α := match o with | some v => .ok v | none => .error 3
def eC {α : Type} (e : EX α) : Int := match e with | .ok _ => 0 | .error c => c
def eV {α : Type} (d : α) (e : EX α) : α := match e with | .ok v => v | .error _ => d
def ftD (u : FrT) (E : List FrT) (vp : Int) (vb : Bool) (x : FrT) (i : Nat) : FrT := (amin (nrD u E (lnV u vp vb x i)) E.length).2
def ftX (u : FrT) (E : List FrT) (vp : Int) (vb : Bool) (x : FrT) (i : Nat) : Bool := lnX u vp vb x i || anyN (nrX u E (lnV u vp vb x i)) E.length
theorem ftD_sm (u : FrT) (E : List FrT) (vp : Int) (vb : Bool) (x : FrT) (i : Nat) : smF (ftD u E vp vb x i).1 (ftD u E vp vb x i).2 := (amin_b (nrD_sm u E _) _).2
def fitE (u : FrT) (E : List FrT) (vp : Int) (vb : Bool) (x : FrT) : EX Int :=
  if cmpF x.1 x.2 (mkV u 0 (elT E 0)).1 (mkV u 0 (elT E 0)).2 < 0 then .error 2 else
  (ofO (lnO' u vp vb x (vp - 1))).bind fun e =>
  if cmpF e.1 e.2 (mkV u ((E.length : Int) - 1) (elT E (E.length - 1))).1 (mkV u ((E.length : Int) - 1) (elT E (E.length - 1))).2 > 0 then .error 2 else
  if anyN (ftX u E vp vb x) vp.toNat = true then .error 3 else .ok (amin (ftD u E vp vb x) vp.toNat).1
def nrN (r u : FrT) : Int := (2 * (r.1 * u.2) + r.2 * u.1) / (2 * (r.2 * u.1))
def fln (vp : Int) (vb : Bool) (f : Int) : Int := if vb = true ∧ f ≠ 0 then vp - f else f
def rvO (u : FrT) (vp : Int) (vb : Bool) (x : FrT) (f : Int) : Option FrT := (muO (tv (dvO (fln vp vb f, 1) (vp, 1))) u).bind fun p => (sbO x p).bind fun r => if -1000000000 ≤ nrN r u ∧ nrN r u ≤ 1000000000 then (muO (nrN r u, 1) u).bind fun w => adO p w else none
def rvP (u : FrT) (vp : Int) (vb : Bool) (f : Int) : FrT := tv (muO (tv (dvO (fln vp vb f, 1) (vp, 1))) u)
def rvN (u : FrT) (vp : Int) (vb : Bool) (x : FrT) (f : Int) : Int := nrN (tv (sbO x (rvP u vp vb f))) u
def rvV (u : FrT) (vp : Int) (vb : Bool) (x : FrT) (f : Int) : FrT := tv (adO (rvP u vp vb f) (tv (muO (rvN u vp vb x f, 1) u)))
def rvX (u : FrT) (vp : Int) (vb : Bool) (x : FrT) (f : Int) : Bool := !(muO (tv (dvO (fln vp vb f, 1) (vp, 1))) u).isSome || !(sbO x (rvP u vp vb f)).isSome || !(muO (rvN u vp vb x f, 1) u).isSome || !(adO (rvP u vp vb f) (tv (muO (rvN u vp vb x f, 1) u))).isSome
theorem rv_e (u : FrT) (vp : Int) (vb : Bool) (x : FrT) (f : Int) : (!decide (-1000000000 ≤ rvN u vp vb x f ∧ rvN u vp vb x f ≤ 1000000000) || rvX u vp vb x f) = !(rvO u vp vb x f).isSome ∧ ∀ v, rvO u vp vb x f = some v → rvV u vp vb x f = v := by
  unfold rvX rvV rvO rvN
  unfold rvP
  cases h1 : muO (tv (dvO (fln vp vb f, 1) (vp, 1))) u with
  | none => simp
  | some p =>
    simp only [Option.bind_some, show tv (some p) = p from rfl]
    cases h2 : sbO x p with
    | none => simp
    | some r =>
      simp only [Option.bind_some, show tv (some r) = r from rfl]
      by_cases h3 : -1000000000 ≤ nrN r u ∧ nrN r u ≤ 1000000000
      · rw [if_pos h3, decide_eq_true h3]
        cases h4 : muO (nrN r u, 1) u with
        | none => simp
        | some w =>
          simp only [Option.bind_some, show tv (some w) = w from rfl, Option.isSome_some, Bool.not_true, Bool.false_or, true_and]
          intro v h5; rw [h5]; rfl
      · rw [if_neg h3, decide_eq_false h3]; simp
def readE (u : FrT) (E : List FrT) (vp : Int) (vb : Bool) (x : FrT) : EX FrT := (fitE u E vp vb x).bind fun f => ofO (rvO u vp vb x f)
/-- A scale that is warm. -/
def wmE (f : FrT) (E : List FrT) : List FrT := E.map fun e => tv (muO e f)
def wmX (f : FrT) (E : List FrT) : Bool := E.any fun e => !(muO e f).isSome
def wmO (u : FrT) (E : List FrT) (y : FrT) : Option (FrT × List FrT) := (adO (1, 1) y).bind fun f => (muO u f).bind fun w => if wmX f E = false ∧ scB w.1 w.2 (wmE f E) = true then some (w, wmE f E) else none
def warmE (u : FrT) (E : List FrT) (y : FrT) : EX (FrT × List FrT) := if 10 * (y.1.natAbs : Int) > y.2 then .error 2 else ofO (wmO u E y)
/-- The readings of both ends. -/
def endsE (u : FrT) (E : List FrT) (vp : Int) (vb : Bool) (g : FrT) (T : List ThT) (c : ShT) : EX (FrT × FrT) :=
  (ofO (enT T c)).bind fun second => (ofO (stO g c.2.1)).bind fun st => (ofO (sbO st (1, 1))).bind fun y => (warmE u E y).bind fun w =>
  (readE w.1 w.2 vp vb c.2.2).bind fun a => (ofO (dvO a st)).bind fun d1 => (readE w.1 w.2 vp vb second).bind fun b => (ofO (dvO b st)).bind fun d2 => .ok (d1, d2)
theorem wm_e (u : FrT) (E : List FrT) (y : FrT) : ((!(adO (1, 1) y).isSome || !(muO u (tv (adO (1, 1) y))).isSome || wmX (tv (adO (1, 1) y)) E) || !scB (tv (muO u (tv (adO (1, 1) y)))).1 (tv (muO u (tv (adO (1, 1) y)))).2 (wmE (tv (adO (1, 1) y)) E)) = !(wmO u E y).isSome ∧ ∀ v, wmO u E y = some v → (tv (muO u (tv (adO (1, 1) y))), wmE (tv (adO (1, 1) y)) E) = v := by
  unfold wmO
  cases h1 : adO (1, 1) y with
  | none => simp
  | some f =>
    simp only [Option.bind_some, show tv (some f) = f from rfl]
    cases h2 : muO u f with
    | none => simp
    | some w =>
      simp only [Option.bind_some, show tv (some w) = w from rfl]
      by_cases h3 : wmX f E = false ∧ scB w.1 w.2 (wmE f E) = true
      · rw [if_pos h3, h3.1, h3.2]; simp
      · rw [if_neg h3]
        refine ⟨?_, fun v h => by simp at h⟩
        cases h4 : wmX f E
        · cases h5 : scB w.1 w.2 (wmE f E)
          · simp
          · exact absurd ⟨h4, h5⟩ h3
        · simp
theorem amin_1 {d : Nat → FrT} : amin d 1 = (0, d 0) := by rw [amin, if_pos (.inl (by simp [amin]))]; rfl
def amin0 (d : Nat → FrT) (k : Nat) : Int × FrT := if k = 0 then (0, (0, 0)) else amin d k
theorem amin0_s {d : Nat → FrT} {k : Nat} : amin0 d (k + 1) = amin d (k + 1) := by unfold amin0; rw [if_neg (by omega)]
theorem eC_of {α : Type} (o : Option α) : eC (ofO o) = if o.isSome = true then 0 else 3 := by cases o <;> rfl
theorem stp_b {vp i : Int} (vb : Bool) (hv : 2 ≤ vp ∧ vp ≤ 40) (hi : 0 ≤ i ∧ i ≤ 40) : 0 ≤ i * stp vp vb ∧ i * stp vp vb ≤ 1640 := by
  have h : 0 ≤ stp vp vb ∧ stp vp vb ≤ 41 := by cases vb <;> simp [stp] <;> omega
  exact ⟨Int.mul_nonneg hi.1 h.1, Int.le_trans (Int.mul_le_mul hi.2 h.2 h.1 (by omega)) (by omega)⟩
end Go.Proofs.Ytbmejhabgoimeaa.Eng
