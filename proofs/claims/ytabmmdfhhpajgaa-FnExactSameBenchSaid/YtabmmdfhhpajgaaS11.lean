/- A text of this claim (S11): lemmas for the proof, no conditions of their own. -/
import Derived.Test.YtabmmdfhhpajgaaS10
set_option linter.unusedVariables false
set_option linter.unusedSimpArgs false
namespace Go.Proofs.Ytabmmdfhhpajgaa.Eng
open Go Go.RowKit

/-! ### the walk -/
structure LoopX (P : Program) (k : Nat) (c : Code) (t : List SV) (S : List SB) (R : SQ) : Prop where
  h : X P k (.loop c) t S R
def lookD : List (Nat × List (Nat × Nat)) → Nat → List (Nat × Nat)
  | [], _ => []
  | p :: r, id => match Nat.beq p.1 id with | true => p.2 | false => lookD r id
/-- What is still to be walked. -/
structure WX (P : Program) (T : Ty) (Q : Nat → Bool) (E : Env) (D : List (Nat × List (Nat × Nat))) (k : Nat) (c : Code) (t : List SV) (S : List SB) (R : SQ) : Prop where
  h : TabOk P T Q → EnvOk P E → X P k c t S R
section
variable (P : Program) (T : Ty) (Q : Nat → Bool) (E : Env) (D : List (Nat × List (Nat × Nat))) (k : Nat)
def wpx : Code → List SV → List SB → SQ → Prop
  | .skip, t, S, R => R .normal t S
  | .region id ops draw, t, S, R => match draw with
    | false => regS T Q E k ops.toList ops.toList t S fun t S => R .normal t S
    | true => drawS P T Q E k (lookD D id) ops t S fun t S => R .normal t S
  | .seq a b, t, S, R => wpx a t S (thenS (fun t S => WX P T Q E D k b t S R) R)
  | .cond c a b, t, S, R => match evS t c with
    | some v => match v with
      | .bool q => match c with
        | .tmp i => splitB q (setK t i (.bool true) fun t => WX P T Q E D k a t S R) (setK t i (.bool false) fun t => WX P T Q E D k b t S R)
        | _ => splitB q (WX P T Q E D k a t S R) (WX P T Q E D k b t S R)
      | _ => False
    | none => False
  | .block id c, t, S, R => wpx c t S (inBlockS id R)
  | .loop c, t, S, R => LoopX P k c t S R
  | .exit id, t, S, R => R (.exit id) t S
  | .ret, t, S, R => R .ret t S
  | _, _, _, _ => False
end
section
variable {P : Program} {T : Ty} {Q : Nat → Bool} {E : Env} {D : List (Nat × List (Nat × Nat))} {k : Nat} {c : Code} {t : List SV} {S : List SB} {R : SQ}
theorem wpx_ok (hT : TabOk P T Q) (hE : EnvOk P E) : ∀ {c : Code} {t : List SV} {S : List SB} {R : SQ}, wpx P T Q E D k c t S R → X P k c t S R := by
  intro c
  induction c with
  | skip => intro t S R h H0 ρ0 ρ t' H hA; exact ⟨.normal, t', H, Ex_skip ⟨rfl, rfl, rfl⟩, t, S, ρ, h, hA⟩
  | region id ops draw =>
    intro t S R h
    simp only [wpx] at h
    split at h
    · exact X_region hT hE h
    · exact X_draw hT hE h
  | seq a b iha ihb =>
    intro t S R h
    simp only [wpx] at h
    refine X_seq ((iha h).mono fun e t S h => ?_)
    cases e <;> first | exact h | exact WX.h h hT hE
  | cond c a b iha ihb =>
    intro t S R h
    simp only [wpx] at h
    split at h
    · rename_i v hv
      split at h
      · rename_i q
        refine X_cond hv ?_
        split at h
        · rename_i i
          simp only [evS] at hv
          have hi : t[i]? = some (.bool q) := by
            rw [getT_eq] at hv
            split at hv
            · rename_i u hu; obtain ⟨e, _⟩ := liveS_ok hv; rw [hu, ← e]
            · simp at hv
          cases q with
          | true =>
            have h := h.t rfl
            rw [setK_iff, set_same hi] at h
            simpa using WX.h h hT hE
          | false =>
            have h := h.f rfl
            rw [setK_iff, set_same hi] at h
            simpa using WX.h h hT hE
        · cases q with
          | true => simpa using (h.t rfl).h hT hE
          | false => simpa using (h.f rfl).h hT hE
      · exact h.elim
    · exact h.elim
  | block id c ih => intro t S R h; exact X_block (ih h)
  | loop c ih => intro t S R h; exact h.h
  | exit id => intro t S R h H0 ρ0 ρ t' H hA; exact ⟨.exit id, t', H, Ex_exit ⟨rfl, rfl, rfl⟩, t, S, ρ, h, hA⟩
  | ret => intro t S R h H0 ρ0 ρ t' H hA; exact ⟨.ret, t', H, Ex_ret ⟨rfl, rfl, rfl⟩, t, S, ρ, h, hA⟩
  | _ => intro t S R h; exact h.elim
theorem WX.of (h : wpx P T Q E D k c t S R) : WX P T Q E D k c t S R := ⟨fun hT hE => wpx_ok hT hE h⟩
/-- A loop in a walk. -/
theorem loopW (hT : TabOk P T Q) (hE : EnvOk P E) (D : List (Nat × List (Nat × Nat))) {σ : Type} {c : Code} (L : σ → List (Nat × SV)) (hp : σ → List SB) (μ : σ → Nat) (Inv : σ → Prop) (s0 : σ) (h0 : Inv s0) (hin : subX k t t S (L s0) (hp s0))
    (round : ∀ s, Inv s → forceL (frameK t (L s)) fun t1 => wpx P T Q E D k c t1 (hp s) (thenS (fun t1 S1 => ∃ s', μ s' < μ s ∧ Inv s' ∧ subX k t t1 S1 (L s') (hp s')) R)) : LoopX P k c t S R :=
  ⟨X_loop L hp μ Inv s0 h0 hin fun s hs => wpx_ok hT hE (forceL_iff.1 (round s hs))⟩
/-- A loop that ends in its first round. -/
theorem loop1 (hT : TabOk P T Q) (hE : EnvOk P E) (D : List (Nat × List (Nat × Nat))) {c : Code} (h : wpx P T Q E D k c t S (thenS (fun _ _ => False) R)) : LoopX P k c t S R := ⟨fun H0 ρ0 ρ t' H hA => by
  obtain ⟨e, t1, H1, h1, t2, S2, ρ2, h2, h3⟩ := wpx_ok hT hE h H0 ρ0 ρ t' H hA
  cases e with
  | normal => exact h2.elim
  | _ => exact ⟨_, t1, H1, Ex_rounds 1 (h1.mono fun e' t'' H'' ⟨a, b, c⟩ => by subst a; subst b; subst c; exact ⟨rfl, rfl, rfl⟩), t2, S2, ρ2, h2, h3⟩⟩
theorem drawOk_i {ops : Array Oper} {rl : List (Nat × Nat)} (h1 : P.follows .mixedOrders = true) (h2 : drawOk ops = true) (h3 : rcOk ops rl = true) : VC (DrawOk P ops rl) := ⟨h1, h2, h3⟩
def undefs (n : Nat) : List SV := List.replicate n (.tup [])
/-- A function. -/
theorem funW (hT : TabOk P T Q) (hE : EnvOk P E) (D : List (Nat × List (Nat × Nat))) {f : FuncId} {fn : Func} {c : Code} {rs : List ResultVar} {n k : Nat} {args : List SV} {S : List SB} {v0 : SV} {S0 : List SB} (hf : P.funcs[f]? = some fn) (hb : fn.body = some c) (hn : (fn.name == "runtime.NumGoroutine") = false)
    (hm : fn.ntmps = n) (hr : fn.results.toList = rs) (hk : S.length = k) (h : forceL (args ++ undefs (n - args.length)) fun t => wpx P T Q E D k c t S (retQ T k rs v0 S0)) : RunsS P f args S v0 S0 := fun H ρ args' hD hd ha => by
  subst hm; subst hr
  rw [forceL_iff] at h
  have hA : At k H ρ ρ (args ++ undefs (fn.ntmps - args.length)) S (args' ++ List.replicate (fn.ntmps - args'.length) undef) H := by
    refine ⟨hD, hd, ?_, Nat.le_refl _, fun _ _ => rfl, fun b id w hb e => ?_, fun _ _ _ => rfl, by omega⟩
    · rw [← ha.1]
      exact (ha.append (LDR.rep (undef_dr ρ) _)).ts
    · have := (hd b id w e).1; omega
  obtain ⟨e, t1, H1, h1, t2, S2, ρ2, h2, h3⟩ := wpx_ok hT hE h H ρ ρ _ H hA
  unfold retQ at h2
  split at h2
  · rename_i he
    obtain ⟨vs, vs', g1, g2, g3⟩ := resS_ok hT.1 h3.den h3.ts h2
    obtain ⟨v2, S3, ρ3, ⟨⟨e1⟩, ⟨e2⟩⟩, f2, f3⟩ := fin_ok h3 hk hd (packS_dr g3) g1
    subst e1; subst e2
    refine ⟨_, _, ρ3, Runs_pt (tyOf_ok P) hf hb hn h1 ?_ g2, f2, f3⟩
    cases e <;> first | exact .inl rfl | exact .inr rfl | simp [isEnd] at he
  · exact h2.elim
end
theorem w64 {n : Int} (h : -9223372036854775808 ≤ n ∧ n < 9223372036854775808) : IntKind.i64.wrap n = n := by
  simp [IntKind.wrap, IntKind.signed, IntKind.bits]
  omega
/-! ### the table of types -/
def TabE (P : Program) (p : Nat × TyD × Bool) : Prop := tyOf P p.1 = some p.2.1 ∧ (p.2.2 = true → eqOf P p.1 = true)
def TabAll (P : Program) : List (Nat × TyD × Bool) → Prop
  | [] => True
  | p :: r => TabE P p ∧ TabAll P r
def lookT : List (Nat × TyD × Bool) → Ty
  | [], _ => none
  | p :: r, t => match Nat.beq p.1 t with | true => some p.2.1 | false => lookT r t
def lookQ : List (Nat × TyD × Bool) → Nat → Bool
  | [], _ => false
  | p :: r, t => match Nat.beq p.1 t with | true => p.2.2 | false => lookQ r t
theorem tab_ok {P : Program} {l : List (Nat × TyD × Bool)} (h : TabAll P l) : TabOk P (lookT l) (lookQ l) := by
  induction l with
  | nil => exact ⟨fun t d e => by simp [lookT] at e, fun t e => by simp [lookQ] at e⟩
  | cons p r ih =>
    obtain ⟨i1, i2⟩ := ih h.2
    refine ⟨fun t d e => ?_, fun t e => ?_⟩
    · simp only [lookT] at e
      split at e
      · rename_i he
        have he : p.1 = t := by simpa using he
        obtain rfl := Option.some.inj e
        rw [← he]; exact h.1.1
      · exact i1 t d e
    · simp only [lookQ] at e
      split at e
      · rename_i he
        have he : p.1 = t := by simpa using he
        rw [← he]; exact h.1.2 e
      · exact i2 t e
end Go.Proofs.Ytabmmdfhhpajgaa.Eng
