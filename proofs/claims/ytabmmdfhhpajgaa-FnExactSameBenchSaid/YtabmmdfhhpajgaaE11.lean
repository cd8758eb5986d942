/- A text of this claim (E11): lemmas for the proof, no conditions of their own. -/
import Derived.Test.YtabmmdfhhpajgaaE10
set_option linter.unusedVariables false
set_option linter.unusedSimpArgs false
namespace Go.Proofs.Ytabmmdfhhpajgaa.Eng
open Go Go.RowKit

/-! ### what code does on the abstract side -/
abbrev AQ := Exit → List Value → Heap → Prop

def Post (w0 : World) (ι : Ren) (B : Nat) (H : Heap) (Q : AQ) : Exit → Act → World → Prop := fun e a w =>
  ∃ (t' : List Value) (H' : Heap) (ι' : Ren), Q e t' H' ∧ HRel w0 ι' H' w ∧ TS ι' t' a.tmps ∧ a.defers = [] ∧ Ext B ι ι' ∧ OCs B H H' ∧ B ≤ H'.length

def Ex (P : Program) (B : Nat) (c : Code) (t : List Value) (H : Heap) (Q : AQ) : Prop :=
  ∀ (w0 : World) (ι : Ren) (w : World) (a : Act), HRel w0 ι H w → TS ι t a.tmps → a.defers = [] → B ≤ H.length → OC B H → c.wp P (Post w0 ι B H Q) a w

def thenA (next : List Value → Heap → Prop) (Q : AQ) : AQ
  | .normal, t, H => next t H
  | e, t, H => Q e t H
def inBlockA (id : Nat) (Q : AQ) : AQ
  | .exit id', t, H => if id' = id then Q .normal t H else Q (.exit id') t H
  | e, t, H => Q e t H

section
variable {P : Program} {B : Nat} {t : List Value} {H : Heap} {Q : AQ}

theorem Post.mono {w0 : World} {ι ι1 : Ren} {H1 : Heap} {Q1 : AQ} (hE : Ext B ι ι1) (hO : OCs B H H1) (hq : ∀ e t H, Q1 e t H → Q e t H) {e : Exit} {a : Act} {w : World} (h : Post w0 ι1 B H1 Q1 e a w) : Post w0 ι B H Q e a w := by
  obtain ⟨t', H', ι', q, h1, h2, h3, h4, h5, h6⟩ := h
  exact ⟨t', H', ι', hq _ _ _ q, h1, h2, h3, hE.trans h4 (Nat.le_refl _), hO.trans h5, h6⟩

theorem Ex.mono {c : Code} {Q1 : AQ} (h : Ex P B c t H Q1) (hq : ∀ e t H, Q1 e t H → Q e t H) : Ex P B c t H Q :=
  fun w0 ι w a h1 h2 h3 h4 h5 => wp_mono (h w0 ι w a h1 h2 h3 h4 h5) fun e a w => Post.mono (Ext.refl _ _) (.refl _ _) hq

theorem Post.now {w0 : World} {ι : Ren} {e : Exit} {a : Act} {w : World} (hq : Q e t H) (h1 : HRel w0 ι H w) (h2 : TS ι t a.tmps) (h3 : a.defers = []) (h4 : B ≤ H.length) : Post w0 ι B H Q e a w :=
  ⟨t, H, ι, hq, h1, h2, h3, .refl _ _, .refl _ _, h4⟩

theorem Ex_skip (h : Q .normal t H) : Ex P B .skip t H Q := fun w0 ι w a h1 h2 h3 h4 h5 => wp_skip (.now h h1 h2 h3 h4)
theorem Ex_label {l : Nat} (h : Q .normal t H) : Ex P B (.label l) t H Q := fun w0 ι w a h1 h2 h3 h4 h5 => wp_label (.now h h1 h2 h3 h4)
theorem Ex_exit {id : Nat} (h : Q (.exit id) t H) : Ex P B (.exit id) t H Q := fun w0 ι w a h1 h2 h3 h4 h5 => wp_exit (.now h h1 h2 h3 h4)
theorem Ex_ret (h : Q .ret t H) : Ex P B .ret t H Q := fun w0 ι w a h1 h2 h3 h4 h5 => wp_ret (.now h h1 h2 h3 h4)
theorem Ex_seq {x y : Code} (h : Ex P B x t H (thenA (fun t H => Ex P B y t H Q) Q)) : Ex P B (.seq x y) t H Q := fun w0 ι w a h1 h2 h3 h4 h5 => by
  refine wp_seq (wp_mono (h w0 ι w a h1 h2 h3 h4 h5) fun e a' w' hp => ?_)
  obtain ⟨t', H', ι', q, k1, k2, k3, k4, k5, k6⟩ := hp
  cases e <;> first
    | exact ⟨t', H', ι', q, k1, k2, k3, k4, k5, k6⟩
    | exact wp_mono (q w0 ι' w' a' k1 k2 k3 k6 (k5 B (Nat.le_refl _) h5)) fun e a w => Post.mono k4 k5 (fun _ _ _ q => q)
theorem Ex_cond {c : Operand} {x y : Code} {q : Bool} (hc : evL t c = some (.bool q)) (h : Ex P B (if q = true then x else y) t H Q) : Ex P B (.cond c x y) t H Q := fun w0 ι w a h1 h2 h3 h4 h5 => by
  have hr := evL_rel h2 hc
  have hv : a.eval c = .bool q := by cases hq : a.eval c <;> rw [hq] at hr <;> cases hr; rfl
  exact wp_cond hv (h w0 ι w a h1 h2 h3 h4 h5)
theorem Ex_block {id : Nat} {c : Code} (h : Ex P B c t H (inBlockA id Q)) : Ex P B (.block id c) t H Q := fun w0 ι w a h1 h2 h3 h4 h5 => by
  refine wp_block (wp_mono (h w0 ι w a h1 h2 h3 h4 h5) fun e a' w' hp => ?_)
  obtain ⟨t', H', ι', q, k1, k2, k3, k4, k5, k6⟩ := hp
  cases e with
  | exit id' =>
    simp only [inBlockA] at q
    simp only [Exit.inBlock]
    split
    · rename_i he; rw [if_pos he] at q; exact ⟨t', H', ι', q, k1, k2, k3, k4, k5, k6⟩
    · rename_i he; rw [if_neg he] at q; exact ⟨t', H', ι', q, k1, k2, k3, k4, k5, k6⟩
  | _ => exact ⟨t', H', ι', q, k1, k2, k3, k4, k5, k6⟩

/-! ### loops -/
def RoundsA (P : Program) (B : Nat) (c : Code) (Q : AQ) : Nat → List Value → Heap → Prop
  | 0, _, _ => False
  | n + 1, t, H => Ex P B c t H (thenA (RoundsA P B c Q n) Q)
theorem rounds_run {c : Code} {w0 : World} : ∀ (n : Nat) (t : List Value) (H : Heap) (ι ι0 : Ren) (H0 : Heap) (w : World) (a : Act), RoundsA P B c Q n t H → HRel w0 ι H w → TS ι t a.tmps → a.defers = [] → B ≤ H.length → OC B H → Ext B ι0 ι → OCs B H0 H →
    Code.rounds P c (Post w0 ι0 B H0 Q) n a w
  | 0, t, H, ι, ι0, H0, w, a, h, _, _, _, _, _, _, _ => h
  | n + 1, t, H, ι, ι0, H0, w, a, h, h1, h2, h3, h4, h5, h6, h7 => by
    refine wp_mono (h w0 ι w a h1 h2 h3 h4 h5) fun e a' w' hp => ?_
    obtain ⟨t', H', ι', q, k1, k2, k3, k4, k5, k6⟩ := hp
    have e1 := h6.trans k4 (Nat.le_refl _)
    have e2 := h7.trans k5
    cases e <;> first
      | exact ⟨t', H', ι', q, k1, k2, k3, e1, e2, k6⟩
      | exact rounds_run n t' H' ι' ι0 H0 w' a' q k1 k2 k3 k6 (k5 B (Nat.le_refl _) h5) e1 e2
theorem Ex_rounds {c : Code} (n : Nat) (h : RoundsA P B c Q n t H) : Ex P B (.loop c) t H Q := fun w0 ι w a h1 h2 h3 h4 h5 =>
  wp_loop_rounds n (rounds_run n t H ι ι H w a h h1 h2 h3 h4 h5 (.refl _ _) (.refl _ _))
theorem thenA_mono {K K1 : List Value → Heap → Prop} (hk : ∀ t H, K1 t H → K t H) : ∀ e t H, thenA K1 Q e t H → thenA K Q e t H := fun e t H h => by
  cases e <;> first | exact h | exact hk _ _ h
theorem rounds_mono {c : Code} : ∀ (n m : Nat) (t : List Value) (H : Heap), n ≤ m → RoundsA P B c Q n t H → RoundsA P B c Q m t H
  | 0, m, t, H, _, h => h.elim
  | n + 1, 0, t, H, hn, h => by omega
  | n + 1, m + 1, t, H, hn, h => Ex.mono h (thenA_mono fun t H => rounds_mono n m t H (by omega))
/-- A loop with a count that falls. -/
theorem Ex_loop {c : Code} (I : Nat → List Value → Heap → Prop) (n : Nat) (h0 : I n t H)
    (hr : ∀ n t H, I n t H → Ex P B c t H (thenA (fun t' H' => ∃ m, m < n ∧ I m t' H') Q)) : Ex P B (.loop c) t H Q := by
  have key : ∀ n t H, I n t H → RoundsA P B c Q (n + 1) t H := by
    intro n
    induction n using Nat.strongRecOn with
    | _ n ih =>
      intro t H hI
      exact Ex.mono (hr n t H hI) (thenA_mono fun t H ⟨m, hm, hI⟩ => rounds_mono (m + 1) n t H hm (ih m hm t H hI))
  exact Ex_rounds _ (key n t H h0)

/-! ### calls -/
def Enters (P : Program) (f : FuncId) : Prop := ∃ fn, P.funcs[f]? = some fn ∧ (fn.name == "runtime.NumGoroutine") = false ∧ fn.body.isNone = false
/-- f, called with these values at this heap, answers as told. -/
def Runs (P : Program) (f : FuncId) (args : List Value) (H : Heap) (R : Value → Heap → Prop) : Prop :=
  Enters P f ∧ ∀ (w0 : World) (ι : Ren) (w : World) (args' : List Value), HRel w0 ι H w → LRel ι args args' →
    Calls P f ⟨args'⟩ w fun e w' => ∃ (v v' : Value) (H' : Heap) (ι' : Ren), e = .returned v' ∧ R v H' ∧ VRel ι' v v' ∧ HRel w0 ι' H' w' ∧ Ext H.length ι ι' ∧ OCs H.length H H' ∧ H.length ≤ H'.length
theorem Runs.mono {f : FuncId} {args : List Value} {R R1 : Value → Heap → Prop} (h : Runs P f args H R1) (hr : ∀ v H, R1 v H → R v H) : Runs P f args H R :=
  ⟨h.1, fun w0 ι w args' h1 h2 => (h.2 w0 ι w args' h1 h2).mono fun e w' ⟨v, v', H', ι', a1, a2, a3⟩ => ⟨v, v', H', ι', a1, hr _ _ a2, a3⟩⟩

/-- One operation. -/
def OpX (P : Program) (B : Nat) (o : Oper) (t : List Value) (H : Heap) (K : Value → Heap → Prop) : Prop :=
  ∀ (w0 : World) (ι : Ren) (w : World) (a : Act) (Qx : Exit → Act → World → Prop), HRel w0 ι H w → TS ι t a.tmps → B ≤ H.length →
    o.wp P a w (fun a' w' => ∃ (v v' : Value) (H' : Heap) (ι' : Ren), a' = a.put o.dst v' ∧ K v H' ∧ TRel ι' v v' ∧ HRel w0 ι' H' w' ∧ Ext H.length ι ι' ∧ OCs B H H' ∧ H.length ≤ H'.length) Qx
theorem OpX.mono {o : Oper} {K K1 : Value → Heap → Prop} (h : OpX P B o t H K1) (hk : ∀ v H, K1 v H → K v H) : OpX P B o t H K := fun w0 ι w a Qx h1 h2 h3 =>
  Oper.wp_mono (fun a' w' ⟨v, v', H', ι', a1, a2, a3⟩ => ⟨v, v', H', ι', a1, hk _ _ a2, a3⟩) (h w0 ι w a Qx h1 h2 h3)
theorem OpX_op {T : Ty} {eqOk : Nat → Bool} (hT : TyOk P T) (hE : EqOk P eqOk) {o : Oper} {K : Value → Heap → Prop} {v : Value} {H' : Heap} (h : opA T eqOk B t H o = some (v, H')) (hk : K v H') : OpX P B o t H K := fun w0 ι w a Qx h1 h2 h3 => by
  obtain ⟨nx, v', w', ι', g1, g2, g3, g4, g5, g6, g7⟩ := op_sound hT hE h1 h3 h2 h
  unfold Oper.wp
  rw [g1]
  rcases g2 with rfl | ⟨rfl, rfl⟩
  · exact ⟨v, v', H', ι', rfl, hk, g4, g3, g5, g6, g7⟩
  · exact ⟨v, undef, H', ι', rfl, hk, g4, g3, g5, g6, g7⟩
theorem OpX_call {o : Oper} {fo : Operand} {args : Array Operand} {tys : Array TypeId} {f : FuncId} {caps as : List Value} {K R : Value → Heap → Prop} (ho : o.op = .call ⟨.value fo, args, tys⟩)
    (hf : evL t fo = some (.func (.func f) #[] ⟨caps⟩)) (ha : evAllL t args.toList = some as) (hr : Runs P f (as ++ caps) H R) (hk : ∀ v H', R v H' → K v H') : OpX P B o t H K := fun w0 ι w a Qx h1 h2 h3 => by
  obtain ⟨⟨fn, e1, e2, e3⟩, hr⟩ := hr
  have hfr := evL_rel h2 hf
  have har := evAllL_rel h2 _ _ ha
  obtain ⟨caps', hfv, hcr⟩ : ∃ caps', a.eval fo = .func (.func f) #[] ⟨caps'⟩ ∧ LRel ι caps caps' := by
    cases hq : a.eval fo <;> rw [hq] at hfr <;> cases hfr
    rename_i ys hl hxy
    exact ⟨ys, rfl, hl, hxy⟩
  have hargs : args.map a.eval = ⟨args.toList.map a.eval⟩ := Array.ext' (by simp)
  have hcall := hr w0 ι w (args.toList.map a.eval ++ caps') h1 (har.append hcr)
  unfold Oper.wp
  have hx : (execOp a.eval o).run P w = .ok (.enter f ⟨args.toList.map a.eval ++ caps'⟩) w := by
    unfold execOp
    simp only [ho, resolve, Deferred.ofValue, hfv, hargs]
    have e5 : ¬ fn.name = "runtime.NumGoroutine" := by simpa using e2
    have e4 : ¬ fn.body = none := by intro hn; simp [hn] at e3
    simp [invoke, callFunc, e1, e5, e4]
  rw [hx]
  refine hcall.mono fun e w' ⟨v, v', H', ι', a1, a2, a3, a4, a5, a6, a7⟩ => ?_
  subst a1
  exact ⟨v, v', H', ι', rfl, hk _ _ a2, .inr a3, a4, a5, a6.mono h3, a7⟩
end
end Go.Proofs.Ytabmmdfhhpajgaa.Eng
