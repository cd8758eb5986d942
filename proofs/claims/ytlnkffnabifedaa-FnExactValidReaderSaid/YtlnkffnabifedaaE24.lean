/- A text of this claim: E24. -/
import Derived.Test.YtlnkffnabifedaaE23
set_option linter.unusedVariables false
set_option linter.unusedSimpArgs false
namespace Go.Proofs.Ytlnkffnabifedaa.Eng
open Go Go.RowKit

/-- The variables that are read again; the others are dead. -/
def keepG (ks : List Nat) : Nat → List Value → List Value
  | _, [] => []
  | i, v :: t => (if ks.contains i = true then v else dead) :: keepG ks (i + 1) t
def keepT (ks : List Nat) (t : List Value) : List Value := keepG ks 0 t
section
variable {P : Program} {B : Nat} {t : List Value} {H : Heap} {Q : AQ}
theorem keepG_get (ks : List Nat) : ∀ (t : List Value) (i j : Nat), (keepG ks i t)[j]? = t[j]?.map fun v => if ks.contains (i + j) = true then v else dead
  | [], i, j => by simp [keepG]
  | v :: t, i, j => by
    cases j with
    | zero => simp [keepG]
    | succ j => simp only [keepG, List.getElem?_cons_succ]; rw [keepG_get ks t (i + 1) j]; rw [show i + 1 + j = i + (j + 1) by omega]
theorem keepG_len (ks : List Nat) : ∀ (t : List Value) (i : Nat), (keepG ks i t).length = t.length
  | [], _ => rfl
  | v :: t, i => by simp [keepG, keepG_len ks t]
theorem Ex_keep {c : Code} (ks : List Nat) (h : Ex P B c (keepT ks t) H Q) : Ex P B c t H Q := fun w0 ι w a h1 h2 h3 h4 h5 =>
  h w0 ι w a h1 ⟨by rw [← h2.1]; exact keepG_len ks t 0, fun i v v' e1 e2 => by
    unfold keepT at e1
    rw [keepG_get] at e1
    cases hv : t[i]? with
    | none => simp [hv] at e1
    | some u =>
      simp only [hv, Option.map_some, Option.some.injEq] at e1
      split at e1
      · subst e1; exact h2.2 i u v' hv e2
      · exact .inl e1.symm⟩ h3 h4 h5
/-- A loop whose state is told. -/
theorem Ex_loopK {c : Code} {σ : Type} (ks : List Nat) (fr : σ → List Value) (hp : σ → Heap) (μ : σ → Nat) (Inv : σ → Prop) (s0 : σ) (hf : keepT ks t = fr s0) (hh : H = hp s0) (hi : Inv s0)
    (round : ∀ s, Inv s → Ex P B c (fr s) (hp s) (thenA (fun t' H' => ∃ s', μ s' < μ s ∧ Inv s' ∧ keepT ks t' = fr s' ∧ H' = hp s') Q)) : Ex P B (.loop c) t H Q :=
  Ex_loop (fun n t H => ∃ s, μ s = n ∧ Inv s ∧ keepT ks t = fr s ∧ H = hp s) (μ s0) ⟨s0, rfl, hi, hf, hh⟩ fun n t H ⟨s, e1, e2, e3, e4⟩ => by
    subst e1; subst e4
    refine Ex_keep ks ?_
    rw [e3]
    exact (round s e2).mono (thenA_mono fun t' H' ⟨s', g1, g2, g3, g4⟩ => ⟨μ s', g1, s', rfl, g2, g3, g4⟩)
end
end Go.Proofs.Ytlnkffnabifedaa.Eng
