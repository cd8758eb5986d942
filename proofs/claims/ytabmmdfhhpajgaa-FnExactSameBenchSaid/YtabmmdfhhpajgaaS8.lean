/- A text of this claim (S8): lemmas for the proof, no conditions of their own. -/
import Derived.Test.YtabmmdfhhpajgaaS7
set_option linter.unusedVariables false
set_option linter.unusedSimpArgs false
namespace Go.Proofs.Ytabmmdfhhpajgaa.Eng
open Go Go.RowKit

/-! ### code on the told side -/
structure At (k : Nat) (H0 : Heap) (ρ0 ρ : Nm) (t : List SV) (S : List SB) (t' : List Value) (H : Heap) : Prop where
  den : Den ρ S H
  dom : Dom ρ S H
  ts : TSD ρ t t'
  len : H0.length ≤ H.length
  fix : ∀ b, b < k → ρ b = ρ0 b
  new : ∀ b id w, k ≤ b → ρ b = some (id, w) → H0.length ≤ id
  keep : ∀ id, id < H0.length → (∀ b w, ρ0 b ≠ some (id, w)) → H[id]? = H0[id]?
  slen : k ≤ S.length
abbrev SQ := Exit → List SV → List SB → Prop
/-- What code does: from what is told, an end of which Q holds. -/
def X (P : Program) (k : Nat) (c : Code) (t : List SV) (S : List SB) (Q : SQ) : Prop :=
  ∀ (H0 : Heap) (ρ0 ρ : Nm) (t' : List Value) (H : Heap), At k H0 ρ0 ρ t S t' H →
    ∃ e t1 H1, Ex P H0.length c t' H (fun e' t'' H'' => e' = e ∧ t'' = t1 ∧ H'' = H1) ∧ ∃ t2 S2 ρ2, Q e t2 S2 ∧ At k H0 ρ0 ρ2 t2 S2 t1 H1

def putK (t : List SV) (d : Option Nat) (v : SV) (K : List SV → Prop) : Prop := match d with | some i => setK t i v K | none => K t
def wantK (ops : List Oper) (o : Oper) (t : List SV) (K : Bool → List SV → Prop) : Prop :=
  match o.guard with
  | none => K true t
  | some (j, want) => match getT ops j with
    | none => False
    | some oj => match oj.dst with
      | none => False
      | some d => match getT t d with
        | none => False
        | some v => match v with
          | .bool q => splitB q (setK t d (.bool true) fun t => K want t) (setK t d (.bool false) fun t => K (!want) t)
          | .dead => False
          | .tup _ => K false t
          | _ => False
/-- One operation, or a call. -/
def stepS (T : Ty) (Q : Nat → Bool) (E : Env) (k : Nat) (t : List SV) (S : List SB) (op : Op) (K : SV → List SB → Prop) : Prop :=
  match op with
  | .call ⟨.value fo, args, tys⟩ => evK t fo fun f => match f with
    | .fn f caps => match lookE E f with
      | some s => evsK t args.toList fun l => appK l caps fun as => callK s as S K
      | none => False
    | _ => False
  | op => opS T Q k t S op K
def regS (T : Ty) (Q : Nat → Bool) (E : Env) (k : Nat) (ops : List Oper) : List Oper → List SV → List SB → (List SV → List SB → Prop) → Prop
  | [], t, S, K => K t S
  | o :: r, t, S, K => wantK ops o t fun q t => match q with
    | true => stepS T Q E k t S o.op fun v S => putK t o.dst v fun t => regS T Q E k ops r t S K
    | false => putK t o.dst (.tup []) fun t => regS T Q E k ops r t S K

section
variable {P : Program} {T : Ty} {Q : Nat → Bool} {E : Env} {k : Nat} {H0 : Heap} {ρ0 ρ ρ' : Nm} {t t2 : List SV} {S S' : List SB} {t' : List Value} {H H' : Heap} {o : Oper} {R : SQ}

theorem At.step (h : At k H0 ρ0 ρ t S t' H) {t2 : List SV} {t2' : List Value} (st : Step ρ S H ρ' S' H') (hs : TSD ρ' t2 t2') : At k H0 ρ0 ρ' t2 S' t2' H' where
  den := st.den
  dom := st.dom
  ts := hs
  len := Nat.le_trans h.len st.hl
  fix := fun b hb => by
    rw [← h.fix b hb]
    cases hr : ρ b with
    | some p => exact st.le _ _ hr
    | none =>
      cases hr' : ρ' b with
      | none => rfl
      | some p =>
        rcases st.fresh b p.1 p.2 hr' with e | ⟨e, _⟩
        · rw [hr] at e; simp at e
        · have := h.slen; omega
  new := fun b id w hb hr => by
    rcases st.fresh b id w hr with e | ⟨_, e⟩
    · exact h.new b id w hb e
    · have := h.len; omega
  keep := fun id hid hn => by
    rw [st.keep id (by have := h.len; omega) fun b w hr => ?_, h.keep id hid hn]
    by_cases hb : b < k
    · rw [h.fix b hb] at hr; exact hn b w hr
    · have := h.new b id w (by omega) hr; omega
  slen := Nat.le_trans h.slen st.sl
theorem At.frame (h : At k H0 ρ0 ρ t S t' H) {t2 : List SV} {t2' : List Value} (hs : TSD ρ t2 t2') : At k H0 ρ0 ρ t2 S t2' H := ⟨h.den, h.dom, hs, h.len, h.fix, h.new, h.keep, h.slen⟩
theorem X.mono {c : Code} {Q1 Q2 : SQ} (h : X P k c t S Q1) (hq : ∀ e t S, Q1 e t S → Q2 e t S) : X P k c t S Q2 := fun H0 ρ0 ρ t' H hA => by
  obtain ⟨e, t1, H1, h1, t2, S2, ρ2, h2, h3⟩ := h H0 ρ0 ρ t' H hA
  exact ⟨e, t1, H1, h1, t2, S2, ρ2, hq _ _ _ h2, h3⟩

theorem putK_ok {d : Option Nat} {v : SV} {K : List SV → Prop} (h : putK t d v K) : ∃ t2, K t2 ∧ ∀ {ρ t' v'}, TSD ρ t t' → TD ρ v v' → TSD ρ t2 (putT t' d v') := by
  cases d with
  | none => exact ⟨t, h, fun ht _ => ht⟩
  | some i => exact ⟨_, setK_iff.1 h, fun ht hv => ht.set hv i⟩
theorem set_same {i : Nat} {v : SV} (h : t[i]? = some v) : t.set i v = t := by
  apply List.ext_getElem?
  intro j
  rw [List.getElem?_set]
  split
  · rename_i e; subst e
    obtain ⟨h1, h2⟩ := List.getElem?_eq_some_iff.1 h
    simp [h1, h2]
  · rfl
theorem wantK_ok {ops : Array Oper} (ht : TSD ρ t t') {K : Bool → List SV → Prop} (h : wantK ops.toList o t K) : ∃ q, wantedA ops o t' = some q ∧ K q t := by
  unfold wantK at h
  unfold wantedA
  split at h
  · rename_i hg; rw [hg]; exact ⟨true, rfl, h⟩
  · rename_i j want hg
    rw [hg]
    simp only [getT_eq, Array.getElem?_toList] at h
    split at h
    · exact h.elim
    · rename_i oj hoj
      split at h
      · exact h.elim
      · rename_i d hd
        split at h
        · exact h.elim
        · rename_i v hv
          obtain ⟨v', hv', hr⟩ := ht.get hv
          simp only [hoj, Option.bind_some, hd, hv']
          split at h
          · rename_i q
            have hr := hr.live (by simp)
            cases hr
            refine ⟨some q == some want, by simp [isDead, boolOf], ?_⟩
            cases q with
            | true =>
              have h := h.t rfl
              rw [setK_iff, set_same hv] at h
              cases want <;> exact h
            | false =>
              have h := h.f rfl
              rw [setK_iff, set_same hv] at h
              cases want <;> exact h
          · exact h.elim
          · have hr := hr.live (by simp)
            cases hr
            exact ⟨false, by simp [isDead, boolOf], h⟩
          · exact h.elim
theorem stepS_ok (hT : TabOk P T Q) (hE : EnvOk P E) (hA : At k H0 ρ0 ρ t S t' H) {K : SV → List SB → Prop} (h : stepS T Q E k t S o.op K) :
    ∃ v v' S2 H2 ρ2, K v S2 ∧ DoesP P H0.length o t' H v' H2 ∧ DR ρ2 v v' ∧ Step ρ S H ρ2 S2 H2 := by
  unfold stepS at h
  split at h
  · rename_i op fo args tys hop
    obtain ⟨f, f', h, h2, h3⟩ := evK_ok hA.ts h
    split at h
    · rename_i f caps
      cases h3 with | fn _ _ caps' hl hr =>
      split at h
      · rename_i s hs
        obtain ⟨l, l', h, g2, g3⟩ := evsK_ok hA.ts h
        rw [appK_iff] at h
        obtain ⟨v, v', S2, H', ρ2, k1, k2, k3, k4⟩ := callK_ok (lookE_ok hE hs) hA.den hA.dom (g3.append ⟨hl, hr⟩) h
        exact ⟨v, v', S2, H', ρ2, k1, .inr ⟨fo, args, tys, f, caps', l', hop, h2, g2, k2⟩, k3, k4⟩
      · exact h.elim
    · exact h.elim
  · obtain ⟨v, v', S2, H2, ρ2, k1, k2, k3, k4⟩ := opS_sound (o := o) hT hA.den hA.dom hA.ts hA.new h
    exact ⟨v, v', S2, H2, ρ2, k1, .inl k2, k3, k4⟩
theorem regS_ok (hT : TabOk P T Q) (hE : EnvOk P E) {ops : Array Oper} : ∀ {l : List Oper} {t : List SV} {S : List SB} {ρ : Nm} {t' : List Value} {H : Heap} {K : List SV → List SB → Prop}, At k H0 ρ0 ρ t S t' H → regS T Q E k ops.toList l t S K →
    ∃ t1 H1, RegX P H0.length ops l t' H (fun t'' H'' => t'' = t1 ∧ H'' = H1) ∧ ∃ t2 S2 ρ2, K t2 S2 ∧ At k H0 ρ0 ρ2 t2 S2 t1 H1
  | [], t, S, ρ, t', H, K, hA, h => ⟨t', H, ⟨rfl, rfl⟩, t, S, ρ, h, hA⟩
  | o :: r, t, S, ρ, t', H, K, hA, h => by
    simp only [regS] at h
    obtain ⟨q, hq, h⟩ := wantK_ok hA.ts h
    cases q with
    | true =>
      simp only at h
      obtain ⟨v, v', S2, H2, ρ2, h, k2, k3, k4⟩ := stepS_ok hT hE hA h
      obtain ⟨t2, h, hp⟩ := putK_ok h
      have hA2 := hA.step k4 (hp (hA.ts.mono k4.le) (.inr k3))
      obtain ⟨t1, H1, h1, rest⟩ := regS_ok hT hE hA2 h
      refine ⟨t1, H1, ⟨true, hq, ?_⟩, rest⟩
      rw [if_pos rfl]
      exact (DoesP.step k2).mono fun u G ⟨e1, e2⟩ => by subst e1; subst e2; exact h1
    | false =>
      simp only at h
      obtain ⟨t2, h, hp⟩ := putK_ok h
      have hA2 := hA.frame (hp hA.ts (.inr (undef_dr ρ)))
      obtain ⟨t1, H1, h1, rest⟩ := regS_ok hT hE hA2 h
      refine ⟨t1, H1, ⟨false, hq, ?_⟩, rest⟩
      rw [if_neg (by simp)]
      exact h1
theorem X_region (hT : TabOk P T Q) (hE : EnvOk P E) {id : Nat} {ops : Array Oper} (h : regS T Q E k ops.toList ops.toList t S (fun t S => R .normal t S)) : X P k (.region id ops false) t S R := fun H0 ρ0 ρ t' H hA => by
  obtain ⟨t1, H1, h1, t2, S2, ρ2, h2, h3⟩ := regS_ok hT hE hA h
  refine ⟨.normal, t1, H1, Ex_region (Ex_sr.regX_mono _ _ _ h1 fun t H ⟨e1, e2⟩ => ⟨rfl, e1, e2⟩), t2, S2, ρ2, h2, h3⟩
def thenS (next : List SV → List SB → Prop) (R : SQ) : SQ
  | .normal, t, S => next t S
  | e, t, S => R e t S
def inBlockS (id : Nat) (R : SQ) : SQ
  | .exit id', t, S => match Nat.beq id' id with | true => R .normal t S | false => R (.exit id') t S
  | e, t, S => R e t S
theorem X_seq {x y : Code} (h : X P k x t S (thenS (fun t S => X P k y t S R) R)) : X P k (.seq x y) t S R := fun H0 ρ0 ρ t' H hA => by
  obtain ⟨e, t1, H1, h1, t2, S2, ρ2, h2, h3⟩ := h H0 ρ0 ρ t' H hA
  have other : e ≠ .normal → R e t2 S2 → ∃ e t1 H1, Ex P H0.length (.seq x y) t' H (fun e' t'' H'' => e' = e ∧ t'' = t1 ∧ H'' = H1) ∧ ∃ t2 S2 ρ2, R e t2 S2 ∧ At k H0 ρ0 ρ2 t2 S2 t1 H1 := fun hne hr =>
    ⟨e, t1, H1, Ex_seq (h1.mono fun e' t'' H'' ⟨a, b, c⟩ => by subst a; subst b; subst c; cases e' <;> first | exact absurd rfl hne | exact ⟨rfl, rfl, rfl⟩), t2, S2, ρ2, hr, h3⟩
  cases e with
  | normal =>
    obtain ⟨e2, t3, H3, g1, g2⟩ := h2 H0 ρ0 ρ2 t1 H1 h3
    exact ⟨e2, t3, H3, Ex_seq (h1.mono fun e' t'' H'' ⟨a, b, c⟩ => by subst a; subst b; subst c; exact g1), g2⟩
  | _ => exact other (by simp) h2
theorem X_cond {c : Operand} {x y : Code} {q : Bool} (hc : evS t c = some (.bool q)) (h : if q = true then X P k x t S R else X P k y t S R) : X P k (.cond c x y) t S R := fun H0 ρ0 ρ t' H hA => by
  obtain ⟨v', hv, hr⟩ := evS_ok hA.ts hc
  cases hr
  cases q with
  | true =>
    obtain ⟨e, t1, H1, h1, h2⟩ := h H0 ρ0 ρ t' H hA
    exact ⟨e, t1, H1, Ex_cond hv (by simpa using h1), h2⟩
  | false =>
    obtain ⟨e, t1, H1, h1, h2⟩ := h H0 ρ0 ρ t' H hA
    exact ⟨e, t1, H1, Ex_cond hv (by simpa using h1), h2⟩
theorem X_block {id : Nat} {c : Code} (h : X P k c t S (inBlockS id R)) : X P k (.block id c) t S R := fun H0 ρ0 ρ t' H hA => by
  obtain ⟨e, t1, H1, h1, t2, S2, ρ2, h2, h3⟩ := h H0 ρ0 ρ t' H hA
  cases e with
  | exit id' =>
    simp only [inBlockS] at h2
    split at h2
    · rename_i e
      have e : id' = id := by simpa using e
      subst e
      exact ⟨.normal, t1, H1, Ex_block (h1.mono fun e' t'' H'' ⟨a, b, c⟩ => by subst a; subst b; subst c; simp [inBlockA]), t2, S2, ρ2, h2, h3⟩
    · rename_i e
      have e : ¬ id' = id := by intro h; rw [h] at e; simp at e
      exact ⟨.exit id', t1, H1, Ex_block (h1.mono fun e' t'' H'' ⟨a, b, c⟩ => by subst a; subst b; subst c; simp [inBlockA, e]), t2, S2, ρ2, h2, h3⟩
  | _ => exact ⟨_, t1, H1, Ex_block (h1.mono fun e' t'' H'' ⟨a, b, c⟩ => by subst a; subst b; subst c; exact ⟨rfl, rfl, rfl⟩), t2, S2, ρ2, h2, h3⟩

/-! ### names turned in the middle -/
def lookN : List (Nat × Nat) → Nat → Option Nat
  | [], _ => none
  | p :: r, j => match Nat.beq p.1 j with | true => some p.2 | false => lookN r j
theorem lookN_mem : ∀ {m : List (Nat × Nat)} {j b : Nat}, lookN m j = some b → (j, b) ∈ m
  | [], j, b, h => by simp [lookN] at h
  | p :: r, j, b, h => by
    simp only [lookN] at h
    split at h
    · rename_i e
      have e : p.1 = j := by simpa using e
      obtain rfl := Option.some.inj h
      subst e; simp
    · exact List.mem_cons_of_mem _ (lookN_mem h)
/-- The told names j stand for b now. -/
def bindN (m : List (Nat × Nat)) (j b : Nat) : Option (List (Nat × Nat)) :=
  match lookN m j with
  | some b' => match Nat.beq b' b with | true => some m | false => none
  | none => some (m ++ [(j, b)])
mutual
def matV : SV → SV → List (Nat × Nat) → Option (List (Nat × Nat))
  | .ptr j _ _, .ptr b _ _, m => bindN m j b
  | .sl j _ _ _, .sl b _ _ _, m => bindN m j b
  | .opt _ j _ _, .opt _ b _ _, m => bindN m j b
  | .agg xs, .agg ys, m => matL xs ys m
  | .tup xs, .tup ys, m => matL xs ys m
  | .fn _ xs, .fn _ ys, m => matL xs ys m
  | _, _, m => some m
def matL : List SV → List SV → List (Nat × Nat) → Option (List (Nat × Nat))
  | v :: xs, u :: ys, m => match matV v u m with | some m => matL xs ys m | none => none
  | _, _, m => some m
end
def matP (t : List SV) : List (Nat × SV) → List (Nat × Nat) → Option (List (Nat × Nat))
  | [], m => some m
  | (i, v) :: r, m => match getT t i with
    | some u => match matV v u m with | some m => matP t r m | none => none
    | none => none
def matS (S2 S : List SB) : Nat → Nat → List (Nat × Nat) → Option (List (Nat × Nat))
  | 0, _, m => some m
  | f + 1, i, m => match getT m i with
    | none => some m
    | some (j, b) => match getT S2 j, getT S b with
      | some (.box cs _ _), some (.box cs' _ _) => match matL cs cs' m with | some m => matS S2 S f (i + 1) m | none => none
      | _, _ => matS S2 S f (i + 1) m
def idm : Nat → List Nat → List (Nat × Nat)
  | 0, _ => []
  | _, [] => []
  | k + 1, n :: ns => (n, n) :: idm k ns
def sameP (g : Nat → Option Nat) (t : List SV) : List (Nat × SV) → Prop
  | [] => True
  | (i, v) :: r => (match getT t i with | some u => (match liveS u with | some u => renK g v fun v' => VC (v' = u) | none => False) | none => False) ∧ sameP g t r
def castK {e' e : ET} (h : e' = e) : List e'.T → (List e.T → Prop) → Prop := h ▸ fun l K => K l
/-- A row of the new names is that of the old ones. -/
def sameB (g : Nat → Option Nat) (x : SB) (y : Option SB) : Prop :=
  match x with
  | .gone => True
  | .arr e l sz wr => match y with
    | some (.arr e' l' sz' wr') => if h : e' = e then (castK h l' fun l' => VC (l' = l)) ∧ VC (sz' = sz ∧ (wr = true → wr' = true)) else False
    | _ => False
  | .arrO e l sz => match y with
    | some (.arrO e' l' sz') => if h : e' = e then (castK h l' fun l' => VC (l' = l)) ∧ VC (sz' = sz) else False
    | _ => False
  | .box cs wr fl => match y with
    | some (.box cs' wr' fl') => renLK g cs fun cs => VC (cs = cs') ∧ VC ((wr = true → wr' = true) ∧ fl' = fl)
    | _ => False
def sameSs (g : Nat → Option Nat) (S : List SB) : List SB → List Nat → Prop
  | [], _ => True
  | x :: r, j :: ns => (match x with | .gone => True | x => match g j with | some b => sameB g x (getT S b) | none => False) ∧ sameSs g S r ns
  | _ :: _, [] => False
def fixN (m : List (Nat × Nat)) : Nat → List Nat → Bool
  | 0, _ => true
  | _ + 1, [] => false
  | k + 1, n :: ns => match lookN m n with | some b => (match Nat.beq b n with | true => fixN m k ns | false => false) | none => false
def sameLen {α : Type} : List α → List α → Bool
  | [], [] => true
  | _ :: a, _ :: b => sameLen a b
  | _, _ => false
/-- What is told now is, under other names, what is told there. -/
def subX (k : Nat) (t0 t : List SV) (S : List SB) (L : List (Nat × SV)) (S2 : List SB) : Prop :=
  forceL S2 fun S2 => match matP t L (idm k nums) with
  | none => False
  | some m => match matS S2 S 40 0 m with
    | none => False
    | some m => forceL m fun m => match nodB (m.map (·.2)) && m.all (fun p => (Nat.blt p.1 S2.length)) && Nat.ble k S2.length && fixN m k nums && sameLen t0 t && Nat.ble S2.length nums.length with
      | true => sameP (lookN m) t L ∧ sameSs (lookN m) S S2 nums
      | false => False
def deadF : List SV → List SV
  | [] => []
  | _ :: r => .dead :: deadF r
def frameK (t : List SV) (L : List (Nat × SV)) : List SV := L.foldl (fun f p => setT f p.1 p.2) (deadF t)
end
end Go.Proofs.Ytabmmdfhhpajgaa.Eng
