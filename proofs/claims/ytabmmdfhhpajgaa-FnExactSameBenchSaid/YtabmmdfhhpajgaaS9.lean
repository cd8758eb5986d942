/- A text of this claim (S9): lemmas for the proof, no conditions of their own. -/
import Derived.Test.YtabmmdfhhpajgaaS8
set_option linter.unusedVariables false
set_option linter.unusedSimpArgs false
namespace Go.Proofs.Ytabmmdfhhpajgaa.Eng
open Go Go.RowKit

section
variable {P : Program} {T : Ty} {Q : Nat → Bool} {E : Env} {k : Nat} {H0 : Heap} {ρ0 ρ ρ' : Nm} {t t2 : List SV} {S S' : List SB} {t' : List Value} {H H' : Heap} {o : Oper} {R : SQ}

theorem fixN_ok {m : List (Nat × Nat)} : ∀ {k : Nat} {ns : List Nat} {b0 : Nat}, (∀ i n, ns[i]? = some n → n = b0 + i) → fixN m k ns = true → ∀ b, b < k → lookN m (b0 + b) = some (b0 + b)
  | 0, ns, b0, _, _, b, hb => by omega
  | k + 1, [], b0, _, h, b, hb => by simp [fixN] at h
  | k + 1, n :: ns, b0, hn, h, b, hb => by
    have h0 := hn 0 n rfl
    simp only [fixN] at h
    split at h
    · rename_i b' hb'
      split at h
      · rename_i he
        have he : b' = n := by simpa using he
        subst he
        cases b with
        | zero => rw [← h0]; exact hb'
        | succ b =>
          have := fixN_ok (b0 := b0 + 1) (fun i n' hi => by have := hn (i + 1) n' (by simpa using hi); omega) h b (by omega)
          rw [show b0 + (b + 1) = b0 + 1 + b by omega]; exact this
      · simp at h
    · simp at h
theorem sameLen_ok {α : Type} : ∀ {a b : List α}, sameLen a b = true → a.length = b.length
  | [], [], _ => rfl
  | [], _ :: _, h => by simp [sameLen] at h
  | _ :: _, [], h => by simp [sameLen] at h
  | x :: a, y :: b, h => by simp only [sameLen] at h; simp [sameLen_ok h]
theorem deadF_len : ∀ (t : List SV), (deadF t).length = t.length
  | [] => rfl
  | _ :: r => by simp [deadF, deadF_len r]
theorem deadF_get : ∀ (t : List SV) (i : Nat) (v : SV), (deadF t)[i]? = some v → v = .dead
  | [], i, v, h => by simp [deadF] at h
  | _ :: r, 0, v, h => by simp [deadF] at h; exact h.symm
  | _ :: r, i + 1, v, h => deadF_get r i v (by simpa [deadF] using h)
theorem deadF_congr : ∀ {t t2 : List SV}, t.length = t2.length → deadF t = deadF t2
  | [], [], _ => rfl
  | [], _ :: _, h => by simp at h
  | _ :: _, [], h => by simp at h
  | _ :: a, _ :: b, h => by simp [deadF, deadF_congr (t := a) (t2 := b) (by simpa using h)]
theorem sameP_ok {g : Nat → Option Nat} (hg : ∀ b c p, g b = some c → ρ c = some p → ρ' b = some p) (ht : TSD ρ t t') : ∀ {L : List (Nat × SV)} {f : List SV}, sameP g t L → TSD ρ' f t' → TSD ρ' (L.foldl (fun f p => setT f p.1 p.2) f) t'
  | [], f, _, hf => hf
  | (i, v) :: r, f, h, hf => by
    simp only [sameP] at h
    obtain ⟨h1, h2⟩ := h
    rw [List.foldl_cons]
    refine sameP_ok hg ht h2 ?_
    rw [getT_eq] at h1
    split at h1
    · rename_i u0 hu
      split at h1
      · rename_i u hlive
        obtain ⟨rfl, hd⟩ := liveS_ok hlive
        obtain ⟨v', e, hback⟩ := (renK_back hg).1 h1
        have e := e.h
        subst e
        simp only [setT_eq]
        refine ⟨by simp [hf.1], fun j w w' q1 q2 => ?_⟩
        rw [List.getElem?_set] at q1
        split at q1
        · rename_i ej; subst ej
          split at q1
          · obtain rfl := Option.some.inj q1
            exact .inr (hback _ ((ht.2 i _ w' hu q2).live hd))
          · simp at q1
        · exact hf.2 j w w' q1 q2
      · exact h1.elim
    · exact h1.elim
theorem sameB_ok {g : Nat → Option Nat} (hg : ∀ b c p, g b = some c → ρ c = some p → ρ' b = some p) {x : SB} {y : Option SB} (hx : isGone x = false) (h : sameB g x y) : ∃ z, y = some z ∧ isGone z = false ∧ ∀ w k, BR ρ z w k → BR ρ' x w k := by
  cases x with
  | gone => simp [isGone] at hx
  | arr e l sz wr =>
    simp only [sameB] at h
    split at h
    · rename_i e' l' sz' wr'
      split at h
      · rename_i he
        subst he
        obtain ⟨h1, ⟨h2⟩⟩ := h
        have h1 := VC.h h1
        subst h1
        obtain ⟨rfl, h3⟩ := h2
        exact ⟨_, rfl, rfl, fun w k r => ⟨r.1, r.2.1, fun q => r.2.2.1 (h3 q), r.2.2.2.1, ⟨r.2.2.2.2.1, fun i v v' a b => (r.2.2.2.2.2 i v v' a b).flat_any (List.all_eq_true.1 (flat_all _) v (List.mem_of_getElem? a)) _⟩⟩⟩
      · exact h.elim
    · exact h.elim
  | arrO e l sz =>
    simp only [sameB] at h
    split at h
    · rename_i e' l' sz'
      split at h
      · rename_i he
        subst he
        obtain ⟨h1, ⟨h2⟩⟩ := h
        have h1 := VC.h h1
        subst h1; subst h2
        exact ⟨_, rfl, hx, fun w k r => ⟨r.1, r.2.1, r.2.2.1, ⟨r.2.2.2.1, fun i v v' a b => (r.2.2.2.2 i v v' a b).flat_any (List.all_eq_true.1 (flat_all _) v (List.mem_of_getElem? a)) _⟩⟩⟩
      · exact h.elim
    · exact h.elim
  | box cs wr fl =>
    simp only [sameB] at h
    split at h
    · rename_i cs' wr' fl'
      obtain ⟨ys, ⟨⟨h1⟩, ⟨h2⟩⟩, hback⟩ := (renK_back hg).2 h
      subst h1
      exact ⟨_, rfl, rfl, fun w k r => ⟨hback _ r.1, r.2.1, fun q => r.2.2.1 (h2.1 q), by rw [r.2.2.2, h2.2]⟩⟩
    · exact h.elim
theorem sameSs_ok {g : Nat → Option Nat} : ∀ {S2 : List SB} {ns : List Nat} {b0 : Nat}, (∀ i n, ns[i]? = some n → n = b0 + i) → sameSs g S S2 ns → ∀ (j : Nat) (x : SB), S2[j]? = some x → isGone x = false → ∃ b, g (b0 + j) = some b ∧ sameB g x (getT S b)
  | [], ns, b0, _, _, j, x, hx, _ => by simp at hx
  | y :: r, [], b0, _, h, j, x, hx, _ => by simp [sameSs] at h
  | y :: r, n :: ns, b0, hn, h, j, x, hx, hg => by
    simp only [sameSs] at h
    obtain ⟨h1, h2⟩ := h
    cases j with
    | zero =>
      simp at hx; subst hx
      have h0 := hn 0 n rfl
      cases y with
      | gone => simp [isGone] at hg
      | arr e l sz wr =>
        simp only at h1
        split at h1
        · rename_i b hb; exact ⟨b, by rw [← h0]; exact hb, h1⟩
        · exact h1.elim
      | box cs wr fl =>
        simp only at h1
        split at h1
        · rename_i b hb; exact ⟨b, by rw [← h0]; exact hb, h1⟩
        · exact h1.elim
      | arrO e l sz =>
        simp only at h1
        split at h1
        · rename_i b hb; exact ⟨b, by rw [← h0]; exact hb, h1⟩
        · exact h1.elim
    | succ j =>
      obtain ⟨b, q1, q2⟩ := sameSs_ok (b0 := b0 + 1) (fun i n' hi => by have := hn (i + 1) n' (by simpa using hi); omega) h2 j x (by simpa using hx) hg
      exact ⟨b, by rw [show b0 + (j + 1) = b0 + 1 + j by omega]; exact q1, q2⟩
theorem nodup_pairs {m : List (Nat × Nat)} (h : (m.map (·.2)).Nodup) {i j b : Nat} (h1 : (i, b) ∈ m) (h2 : (j, b) ∈ m) : i = j := by
  obtain ⟨p, hp, e1⟩ := List.getElem_of_mem h1
  obtain ⟨q, hq, e2⟩ := List.getElem_of_mem h2
  have : p = q := nodup_at h (b := b) (by simp [hp, e1]) (by simp [hq, e2])
  subst this
  rw [e1] at e2; exact (Prod.mk.inj e2).1
theorem subX_ok {L : List (Nat × SV)} {S2 : List SB} {t0 : List SV} (hA : At k H0 ρ0 ρ t S t' H) (h : subX k t0 t S L S2) : ∃ ρ2, At k H0 ρ0 ρ2 (frameK t0 L) S2 t' H := by
  unfold subX at h
  rw [forceL_iff] at h
  split at h
  · exact h.elim
  · split at h
    · exact h.elim
    · rename_i m hm
      rw [forceL_iff] at h
      split at h
      · rename_i hc
        simp only [Bool.and_eq_true, Nat.ble_eq] at hc
        obtain ⟨⟨⟨⟨⟨c1, c2⟩, c3⟩, c4⟩, c5⟩, c6⟩ := hc
        obtain ⟨h1, h2⟩ := h
        have hnd := nodB_ok c1
        have hfix := fixN_ok nums_at c4
        let ρ2 : Nm := fun j => (lookN m j).bind ρ
        have at2 : ∀ j p, ρ2 j = some p → ∃ b, lookN m j = some b ∧ ρ b = some p := fun j p e => by
          simp only [ρ2] at e
          cases hb : lookN m j with
          | none => simp [hb] at e
          | some b => exact ⟨b, rfl, by simpa [hb] using e⟩
        have hg : ∀ b c p, lookN m b = some c → ρ c = some p → ρ2 b = some p := fun b c p e1 e2 => by simp [ρ2, e1, e2]
        have inj : ∀ i j b, lookN m i = some b → lookN m j = some b → i = j := fun i j b e1 e2 => nodup_pairs hnd (lookN_mem e1) (lookN_mem e2)
        refine ⟨ρ2, ⟨fun j x hx hgx => ?_, fun i j id w w' e1 e2 => ?_⟩, fun j id w e => ?_, ?_, hA.len, fun b hb => ?_, fun j id w hj e => ?_, hA.keep, c3⟩
        · obtain ⟨b, q1, q2⟩ := sameSs_ok (b0 := 0) nums_at h2 j x hx hgx
          rw [Nat.zero_add] at q1
          obtain ⟨z, q3, q4, q5⟩ := sameB_ok hg hgx q2
          rw [getT_eq] at q3
          obtain ⟨id, w, kb, r1, r2, r3⟩ := hA.den.blk b z q3 q4
          exact ⟨id, w, kb, hg _ _ _ q1 r1, r2, q5 w kb r3⟩
        · obtain ⟨b, a1, a2⟩ := at2 _ _ e1
          obtain ⟨b', b1, b2⟩ := at2 _ _ e2
          have := hA.den.inj _ _ _ _ _ a2 b2
          subst this
          exact inj _ _ _ a1 b1
        · obtain ⟨b, a1, a2⟩ := at2 _ _ e
          have := List.all_eq_true.1 c2 _ (lookN_mem a1)
          exact ⟨by simpa [Nat.blt_eq] using this, (hA.dom b id w a2).2⟩
        · unfold frameK
          refine sameP_ok hg hA.ts h1 ⟨by rw [deadF_len, sameLen_ok c5]; exact hA.ts.1, fun i v v' e1 _ => .inl (deadF_get _ _ _ e1)⟩
        · have := hfix b hb
          rw [Nat.zero_add] at this
          simp only [ρ2, this, Option.bind_some]
          exact hA.fix b hb
        · obtain ⟨b, a1, a2⟩ := at2 _ _ e
          refine hA.new b id w ?_ a2
          by_cases hb : b < k
          · have := hfix b hb
            rw [Nat.zero_add] at this
            have := inj _ _ _ a1 this
            omega
          · omega
      · exact h.elim
/-- A loop: what is told of its variables and rows, for each state. -/
theorem X_loop {σ : Type} {c : Code} (L : σ → List (Nat × SV)) (hp : σ → List SB) (μ : σ → Nat) (Inv : σ → Prop) (s0 : σ) (h0 : Inv s0) (hin : subX k t t S (L s0) (hp s0))
    (round : ∀ s, Inv s → X P k c (frameK t (L s)) (hp s) (thenS (fun t1 S1 => ∃ s', μ s' < μ s ∧ Inv s' ∧ subX k t t1 S1 (L s') (hp s')) R)) : X P k (.loop c) t S R := fun H0 ρ0 ρ t' H hA => by
  have key : ∀ n s, μ s = n → Inv s → ∀ ρ t' H, At k H0 ρ0 ρ (frameK t (L s)) (hp s) t' H → ∃ m e t1 H1, RoundsA P H0.length c (fun e' t'' H'' => e' = e ∧ t'' = t1 ∧ H'' = H1) m t' H ∧ ∃ t2 S2 ρ2, R e t2 S2 ∧ At k H0 ρ0 ρ2 t2 S2 t1 H1 := by
    intro n
    induction n using Nat.strongRecOn with
    | _ n ih =>
      intro s hn hI ρ t' H hA
      obtain ⟨e, t1, H1, h1, t2, S2, ρ2, h2, h3⟩ := round s hI H0 ρ0 ρ t' H hA
      have other : e ≠ .normal → R e t2 S2 → ∃ m e t1 H1, RoundsA P H0.length c (fun e' t'' H'' => e' = e ∧ t'' = t1 ∧ H'' = H1) m t' H ∧ ∃ t2 S2 ρ2, R e t2 S2 ∧ At k H0 ρ0 ρ2 t2 S2 t1 H1 := fun hne hr =>
        ⟨1, e, t1, H1, h1.mono fun e' t'' H'' ⟨a, b, c⟩ => by subst a; subst b; subst c; cases e' <;> first | exact absurd rfl hne | exact ⟨rfl, rfl, rfl⟩, t2, S2, ρ2, hr, h3⟩
      cases e with
      | normal =>
        obtain ⟨s', hlt, hI', hsub⟩ := h2
        obtain ⟨ρ3, hA3⟩ := subX_ok h3 hsub
        obtain ⟨m, e2, t3, H3, g1, g2⟩ := ih (μ s') (by omega) s' rfl hI' ρ3 t1 H1 hA3
        exact ⟨m + 1, e2, t3, H3, h1.mono fun e' t'' H'' ⟨a, b, c⟩ => by subst a; subst b; subst c; exact g1, g2⟩
      | _ => exact other (by simp) h2
  obtain ⟨ρ1, hA1⟩ := subX_ok hA hin
  obtain ⟨m, e, t1, H1, h1, h2⟩ := key _ s0 rfl h0 ρ1 t' H hA1
  exact ⟨e, t1, H1, Ex_rounds m h1, h2⟩

/-! ### a function's end -/
theorem Runs_pt {T : Ty} (hT : TyOk P T) {f : FuncId} {fn : Func} {c : Code} {args : List Value} {e : Exit} {t1 : List Value} {H1 : Heap} {vs : List Value} (hf : P.funcs[f]? = some fn) (hb : fn.body = some c) (hn : (fn.name == "runtime.NumGoroutine") = false)
    (h : Ex P H.length c (args ++ List.replicate (fn.ntmps - args.length) undef) H (fun e' t'' H'' => e' = e ∧ t'' = t1 ∧ H'' = H1)) (he : e = .normal ∨ e = .ret) (hv : resA T t1 H1 fn.results.toList = some vs) : Runs P f args H (fun u G => u = packR vs ∧ G = H1) := by
  refine ⟨⟨fn, hf, hn, by simp [hb]⟩, fun w0 ι w args' h1 h2 => ?_⟩
  refine calls_of_wp hf hb ?_
  refine wp_mono (h w0 ι w _ h1 (by simpa using TS.start h2 fn.ntmps) rfl (Nat.le_refl _) h1.oc) ?_
  rintro e1 a w' ⟨t2, H2, ι', ⟨rfl, rfl, rfl⟩, k1, k2, k3, k4, k5, k6⟩
  obtain ⟨vs', g1, g2⟩ := resA_run hT k1 k2 _ _ hv
  have hres : (results fn a.tmps).run P w' = .ok (packR vs') w' := by
    rw [results_eq, Sem.run_bind, Array.mapM_eq_mapM_toList]
    have : (List.toArray <$> List.mapM (resM a.tmps) fn.results.toList : Sem (Array Value)).run P w' = .ok vs'.toArray w' := by
      rw [map_eq_pure_bind, Sem.run_bind, g1]; rfl
    rw [this]
    simp only [Result.andThen_ok]
    match vs' with
    | [] => rfl
    | [v] => rfl
    | v :: u :: r => rfl
  have hpack : VRel ι' (packR vs) (packR vs') := by
    match vs, vs', g2 with
    | [], vs', g2 => have : vs' = [] := List.eq_nil_of_length_eq_zero (by have := g2.1; simpa using this.symm); subst this; exact .tuple _ _ rfl (fun i v v' h => by simp at h)
    | [v], vs', g2 =>
      obtain ⟨v', r, rfl, hv, hr⟩ := g2.inv_cons
      have : r = [] := List.eq_nil_of_length_eq_zero (by have := hr.1; simpa using this.symm)
      subst this; exact hv
    | v :: u :: r, vs', g2 =>
      obtain ⟨v', r', rfl, hv, hr⟩ := g2.inv_cons
      obtain ⟨u', r'', rfl, hu, hr'⟩ := hr.inv_cons
      exact .tuple _ _ g2.1 g2.2
  have fin : a.defers = [] ∧ ∃ v, (results fn a.tmps).run P w' = .ok v w' ∧ ∃ (u v' : Value) (H' : Heap) (ι1 : Ren), (Ending.returned v) = .returned v' ∧ (u = packR vs ∧ H' = H2) ∧ VRel ι1 u v' ∧ HRel w0 ι1 H' w' ∧ Ext H.length ι ι1 ∧ OCs H.length H H' ∧ H.length ≤ H'.length :=
    ⟨k3, packR vs', hres, packR vs, packR vs', H2, ι', rfl, ⟨rfl, rfl⟩, hpack, k1, k4, k5, k6⟩
  rcases he with rfl | rfl <;> exact fin

def isEnd : Exit → Bool
  | .normal => true
  | .ret => true
  | _ => false
def resS (T : Ty) (t : List SV) (S : List SB) : List ResultVar → (List SV → Prop) → Prop
  | [], K => K []
  | .tmp i :: r, K => match getT t i with
    | some v => match liveS v with
      | some v => resS T t S r fun l => K (v :: l)
      | none => False
    | none => False
  | .cell i ty :: r, K => match getT t i with
    | some v => match liveS v with
      | some v => match T ty with
        | some d => loadS d S v fun u => resS T t S r fun l => K (u :: l)
        | none => False
      | none => False
    | none => False
def packS : List SV → SV
  | [v] => v
  | vs => .tup vs
def prefB : Nat → List Nat → List Nat → Bool
  | 0, _, _ => true
  | k + 1, n :: ns, c :: ks => match Nat.beq n c with | true => prefB k ns ks | false => false
  | _ + 1, _, _ => false
def firstN : Nat → List Nat → List Nat
  | 0, _ => []
  | _, [] => []
  | k + 1, n :: ns => n :: firstN k ns
/-- The answer under the caller's names. -/
def finK (k : Nat) (v : SV) (S : List SB) (K : SV → List SB → Prop) : Prop :=
  forceL (closeN S 60 (namesV v (firstN k nums)) 0) fun ks => match nodB ks && prefB k nums ks with
    | true => renK (idxN ks nums) v fun v' => pickK (idxN ks nums) S ks fun S' => K v' S'
    | false => False
def retQ (T : Ty) (k : Nat) (rs : List ResultVar) (v0 : SV) (S0 : List SB) : SQ := fun e t S =>
  match isEnd e with
  | true => resS T t S rs fun vs => finK k (packS vs) S fun v' S' => VC (v' = v0) ∧ VC (S' = S0)
  | false => False
theorem prefB_ok : ∀ {k : Nat} {ns ks : List Nat} {b0 : Nat}, (∀ i n, ns[i]? = some n → n = b0 + i) → prefB k ns ks = true → (∀ b, b < k → ks[b]? = some (b0 + b)) ∧ k ≤ ks.length
  | 0, ns, ks, b0, _, _ => ⟨fun b hb => by omega, by omega⟩
  | k + 1, [], ks, b0, _, h => by simp [prefB] at h
  | k + 1, n :: ns, [], b0, _, h => by simp [prefB] at h
  | k + 1, n :: ns, c :: ks, b0, hn, h => by
    simp only [prefB] at h
    split at h
    · rename_i e
      have e : n = c := by simpa using e
      have h0 := hn 0 n rfl
      obtain ⟨h1, h2⟩ := prefB_ok (b0 := b0 + 1) (fun i n' hi => by have := hn (i + 1) n' (by simpa using hi); omega) h
      refine ⟨fun b hb => ?_, by simp; omega⟩
      cases b with
      | zero => simp; omega
      | succ b => have := h1 b (by omega); simp; rw [this]; congr 1; omega
    · simp at h
theorem resS_ok {T : Ty} (hT : ∀ t d, T t = some d → tyOf P t = some d) (hD : Den ρ S H) (ht : TSD ρ t t') : ∀ {rs : List ResultVar} {K : List SV → Prop}, resS T t S rs K → ∃ vs vs', K vs ∧ resA (tyOf P) t' H rs = some vs' ∧ LDR ρ vs vs'
  | [], K, h => ⟨[], [], h, rfl, .nil ρ⟩
  | .tmp i :: r, K, h => by
    simp only [resS, getT_eq] at h
    split at h
    · rename_i u hu
      split at h
      · rename_i v hv
        obtain ⟨rfl, hd⟩ := liveS_ok hv
        obtain ⟨u', hu', hr⟩ := ht.get hu
        have hr := hr.live hd
        obtain ⟨vs, vs', h1, h2, h3⟩ := resS_ok hT hD ht h
        exact ⟨_, _, h1, by simp [resA, liveAt, hu', hr.alive, h2], .cons hr h3⟩
      · exact h.elim
    · exact h.elim
  | .cell i ty :: r, K, h => by
    simp only [resS, getT_eq] at h
    split at h
    · rename_i u hu
      split at h
      · rename_i v hv
        obtain ⟨rfl, hd⟩ := liveS_ok hv
        obtain ⟨u', hu', hr⟩ := ht.get hu
        have hr := hr.live hd
        split at h
        · rename_i d hty
          obtain ⟨w, w', g1, g2, g3⟩ := loadS_ok hD (hT _ _ hty) hr h
          obtain ⟨vs, vs', h1, h2, h3⟩ := resS_ok hT hD ht g1
          exact ⟨_, _, h1, by simp [resA, liveAt, hu', hr.alive, h2, g2], .cons g3 h3⟩
        · exact h.elim
      · exact h.elim
    · exact h.elim
theorem packS_dr {vs : List SV} {vs' : List Value} (h : LDR ρ vs vs') : DR ρ (packS vs) (packR vs') := by
  match vs, vs', h with
  | [], vs', h => rw [h.inv_nil]; exact .tup _ _ rfl fun i v v' h => by simp at h
  | [v], vs', h => obtain ⟨v', r, rfl, h1, h2⟩ := h.inv_cons; rw [h2.inv_nil]; exact h1
  | v :: u :: r, vs', h =>
    obtain ⟨v', r1, rfl, h1, h2⟩ := h.inv_cons
    obtain ⟨u', r2, rfl, h3, h4⟩ := h2.inv_cons
    exact .tup _ _ h.1 h.2
/-- A function's end, as the caller sees it. -/
theorem fin_ok {v : SV} {v' : Value} {K : SV → List SB → Prop} (hA : At k H0 ρ0 ρ t S t' H) (hS : S'.length = k) (hd0 : Dom ρ0 S' H0) (hr : DR ρ v v') (h : finK k v S K) : ∃ v2 S2 ρ2, K v2 S2 ∧ DR ρ2 v2 v' ∧ Step ρ0 S' H0 ρ2 S2 H := by
  unfold finK at h
  rw [forceL_iff] at h
  generalize closeN S 60 (namesV v (firstN k nums)) 0 = ks at h
  split at h
  · rename_i hc
    simp only [Bool.and_eq_true] at hc
    have hnd := nodB_ok hc.1
    obtain ⟨hpre, hkl⟩ := prefB_ok nums_at hc.2
    let ρ2 : Nm := fun j => (ks[j]?).bind ρ
    have hg : ∀ b c p, idxN ks nums b = some c → ρ b = some p → ρ2 c = some p := fun b c p e1 e2 => by
      obtain ⟨i, rfl, hi⟩ := idxN_ok nums_at e1
      simp [ρ2, hi, e2]
    have at2 : ∀ j p, ρ2 j = some p → ∃ b, ks[j]? = some b ∧ ρ b = some p := fun j p e => by
      simp only [ρ2] at e
      cases hb : ks[j]? with
      | none => simp [hb] at e
      | some b => exact ⟨b, rfl, by simpa [hb] using e⟩
    have hinj : ∀ i j b, ks[i]? = some b → ks[j]? = some b → i = j := fun i j b e1 e2 => nodup_at hnd e1 e2
    obtain ⟨v2, h, hv2⟩ := renK_ok hg h
    obtain ⟨S2, h, hlen, hin, hpick⟩ := pickK_ok hg h
    refine ⟨v2, S2, ρ2, h, hv2 _ hr, fun b p e => ?_, ⟨fun j y hy hgy => ?_, fun i j id w w' e1 e2 => ?_⟩, fun j id w e => ?_, fun j id w e => ?_, hA.len, by omega, hA.keep⟩
    · have hb : b < k := by have := (hd0 b p.1 p.2 e).1; omega
      have := hpre b hb
      rw [Nat.zero_add] at this
      simp only [ρ2, this, Option.bind_some]
      rw [hA.fix b hb]; exact e
    · have hj : j < ks.length := by rw [← hlen]; exact (List.getElem?_eq_some_iff.1 hy).1
      obtain ⟨x, h1, h2, h3⟩ := hpick j ks[j] y (by simp [hj]) hy
      obtain ⟨id, w, kb, g1, g2, g3⟩ := hA.den.blk _ x h1 (by rw [← h2]; exact hgy)
      exact ⟨id, w, kb, by simp [ρ2, hj, g1], g2, h3 w kb g3⟩
    · obtain ⟨b, a1, a2⟩ := at2 _ _ e1
      obtain ⟨b', b1, b2⟩ := at2 _ _ e2
      have := hA.den.inj _ _ _ _ _ a2 b2
      subst this
      exact hinj i j b a1 b1
    · obtain ⟨b, a1, a2⟩ := at2 _ _ e
      exact ⟨by rw [hlen]; exact (List.getElem?_eq_some_iff.1 a1).1, (hA.dom b id w a2).2⟩
    · obtain ⟨b, a1, a2⟩ := at2 _ _ e
      by_cases hj : j < k
      · have := hpre j hj
        rw [Nat.zero_add, a1] at this
        obtain rfl := Option.some.inj this
        left; rw [← hA.fix b hj]; exact a2
      · right
        refine ⟨by omega, hA.new b id w ?_ a2⟩
        by_cases hb : b < k
        · have := hpre b hb
          rw [Nat.zero_add] at this
          have := hinj _ _ _ a1 this; omega
        · omega
  · exact h.elim
end
end Go.Proofs.Ytabmmdfhhpajgaa.Eng
